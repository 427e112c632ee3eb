import Derived.Test.YtfhpecgknmfnnaaGreatDoorA9
import Derived.Test.YtfhpecgknmfnnaaGreatDoorA3
import Derived.Test.YtfhpecgknmfnnaaGreatDoorA7
import Derived.ChangeSame
import Derived.RowKit3
import Derived.Below
import Derived.Test.YtfhpecgknmfnnaaGreatDoorRows
import Derived.Deep.Slices
import Derived.Carry
import Derived.Test.YtfhpecgknmfnnaaGreatDoorA8
set_option linter.unusedVariables false
set_option linter.unusedSimpArgs false
section
namespace Go.Proofs.YtfhpecgknmfnnaaGreatDoor.M
open Go.R
def clauseI (c : Clause) : Prop := litI c.head ∧ ∀ l ∈ c.body, litI l
def bodyGo : Nat → ByteArray → List Lit → ByteArray
 | _, out, [] => out
 | 0, out, t :: r => bodyGo 1 (out ++ ⟨#[32, 58, 45, 32]⟩ ++ litText t) r
 | k + 1, out, t :: r => bodyGo (k + 2) (out ++ ⟨#[44, 32]⟩ ++ litText t) r
def clauseText (c : Clause) : ByteArray := bodyGo 0 (litText c.head) c.body ++ ⟨#[46]⟩
def printB (c : Clause) : ByteArray × Int := if checkB c then (clauseText c, 0) else (⟨#[]⟩, 1)
def printLitB (l : Lit) : ByteArray × Int := if checkLitB l then (litText l, 0) else (⟨#[]⟩, 1)
theorem argsGo_size : ∀ (l : List Term) (k : Nat) (out : ByteArray), (∀ t ∈ l, tI t) → termsB l = true → (argsGo k out l).size ≤ out.size + 22 * l.length
 | [], k, out, _, _ => by cases k <;> simp [argsGo]
 | t :: r, k, out, hi, hb => by
   have h1 := termText_size (hi t (by simp)) (by simp [termsB] at hb; exact hb.1)
   have g1 : (⟨#[40]⟩ : ByteArray).size = 1 := rfl
   have g2 : (⟨#[44, 32]⟩ : ByteArray).size = 2 := rfl
   have hr : termsB r = true := by simp [termsB] at hb ⊢; exact hb.2
   cases k with
   | zero =>
     have := argsGo_size r 1 (out ++ ⟨#[40]⟩ ++ termText t) (fun x hx => hi x (by simp [hx])) hr
     simp only [ByteArray.size_append, g1] at this
     simp only [argsGo, List.length_cons]
     omega
   | succ k =>
     have := argsGo_size r (k + 2) (out ++ ⟨#[44, 32]⟩ ++ termText t) (fun x hx => hi x (by simp [hx])) hr
     simp only [ByteArray.size_append, g2] at this
     simp only [argsGo, List.length_cons]
     omega
theorem litText_size {l : Lit} (hi : litI l) (hg : literalB l = true) : (litText l).size ≤ 200 := by
 have f1 : (⟨#[110, 111, 116, 32]⟩ : ByteArray).size = 4 := rfl
 have f2 : (⟨#[32, 115, 97, 121, 115, 32]⟩ : ByteArray).size = 6 := rfl
 have f3 : (⟨#[]⟩ : ByteArray).size = 0 := rfl
 have f4 : (⟨#[41]⟩ : ByteArray).size = 1 := rfl
 have f5 : (⟨#[32, 60, 32]⟩ : ByteArray).size = 3 := rfl
 have f6 : (⟨#[32, 33, 61, 32]⟩ : ByteArray).size = 4 := rfl
 have hz : ∀ i, termsB l.args = true → (termAt l.args i).size ≤ 20 := by
  intro i hb
  unfold termAt
  split
  · rename_i t ht
    have hm := List.mem_of_getElem? ht
    exact termText_size (hi.2 t hm) (by unfold termsB at hb; rw [List.all_eq_true] at hb; exact hb t hm)
  · exact Nat.zero_le _
 by_cases h12 : (l.kind == 1 || l.kind == 2) = true
 · have hs : saidB l = true := by simp only [literalB, h12, if_true] at hg; exact hg
   have h3 : (l.kind == 3) = false := by simp at h12 ⊢; omega
   have h4 : (l.kind == 4) = false := by simp at h12 ⊢; omega
   have hpred : l.pred.size ≤ 16 := by simp only [saidB, Bool.and_eq_true] at hs; exact nameB_size hs.1.1.2
   have hlen : l.args.length ≤ 4 := by simp only [saidB, Bool.and_eq_true, decide_eq_true_eq] at hs; exact hs.1.2
   have hts : termsB l.args = true := by simp only [saidB, Bool.and_eq_true] at hs; exact hs.2
   have hwho : ownT l.who = false → (termText l.who).size ≤ 20 := fun e => by
    simp only [saidB, Bool.and_eq_true, e, Bool.false_or] at hs
    exact termText_size hi.1 hs.1.1.1.1
   have ha := argsGo_size l.args 0 (litAhead l) hi.2 hts
   have hahead : (litAhead l).size ≤ 60 := by
    unfold litAhead
    cases ho : ownT l.who
    · have := hwho ho
      simp only [ByteArray.size_append, Bool.false_eq_true, if_false]
      split <;> omega
    · simp only [ByteArray.size_append, if_true]
      split <;> omega
   simp only [litText, h3, h4, Bool.false_eq_true, if_false, litBehind]
   split
   · rw [ByteArray.size_append, f4]; omega
   · omega
 · have h12 : (l.kind == 1 || l.kind == 2) = false := by simpa using h12
   have hts : termsB l.args = true := by simp only [literalB, h12, Bool.false_eq_true, if_false, Bool.and_eq_true] at hg; exact hg.2
   have h0 := hz 0 hts
   have h1 := hz 1 hts
   simp only [literalB, h12, Bool.false_eq_true, if_false, Bool.and_eq_true, Bool.or_eq_true] at hg
   unfold litText
   split
   · simp only [ByteArray.size_append, f5]; omega
   · split
     · simp only [ByteArray.size_append, f6]; omega
     · exfalso
       rcases hg.1.1.1.1 with q | q <;> simp_all
theorem checkLit_literal {l : Lit} (h : checkLitB l = true) : literalB l = true := by
 simp only [checkLitB, Bool.and_eq_true] at h
 simp [literalB, h.1, h.2]
end Go.Proofs.YtfhpecgknmfnnaaGreatDoor.M
end
section
namespace Go.Proofs.YtfhpecgknmfnnaaGreatDoor.M
open Go.R Go.RowKit
def u8Row (c : Int) : List DV := [.v (.int .u8 c)]
theorem wp_two {P : Program} {id : Nat} {o1 o2 : Oper} {Q : Exit → Act → World → Prop} {a : Act} {w : World} (g1 : o1.guard = none) (g2 : o2.guard = none)
 (h : o1.wp P a w (fun a' w' => o2.wp P a' w' (Q .normal) Q) Q) : (Code.region id #[o1, o2] false).wp P Q a w := by
 refine wp_region ?_
 show wpOps P #[o1, o2] Q [0, 1] a w
 simp only [wpOps, List.getElem?_toArray, List.getElem?_cons_zero, List.getElem?_cons_succ]
 rw [if_pos (by simp [Region.wanted, g1])]
 refine .inl (Oper.wp_mono ?_ h)
 intro a' w' h'
 rw [if_pos (by simp [Region.wanted, g2])]
 exact .inl h'
theorem wp_val {P : Program} {o : Oper} {a : Act} {w : World} {next : Act → World → Prop} {Q : Exit → Act → World → Prop} {v : Value} (h : (execOp a.eval o).run P w = .ok (.value v) w) (k : next (a.put o.dst v) w) : o.wp P a w next Q := by
 unfold Oper.wp
 rw [h]
 exact k
theorem wp_enter {P : Program} {o : Oper} {a : Act} {w : World} {next : Act → World → Prop} {Q : Exit → Act → World → Prop} {f : FuncId} {args : Array Value} (h : (execOp a.eval o).run P w = .ok (.enter f args) w)
 (k : Calls P f args w fun e w' => ∃ v, e = .returned v ∧ next (a.put o.dst v) w') : o.wp P a w next Q := by
 unfold Oper.wp
 rw [h, Oper.upon_enter]
 refine k.mono fun e w' he => ?_
 obtain ⟨v, rfl, h⟩ := he
 exact h
theorem heap_putRow {α : Type} [Inhabited α] (enc : α → Value) (w : World) (blk off : Nat) (d : Array α) {b : Nat} (h : b ≠ blk) : (Sort.putRow enc w blk off d).heap[b]? = w.heap[b]? := by
 simp [Sort.putRow, Sort.mapBlock, Array.getElem?_modify, Ne.symm h]
theorem size_putRow {α : Type} [Inhabited α] (enc : α → Value) (w : World) (blk off : Nat) (d : Array α) : (Sort.putRow enc w blk off d).heap.size = w.heap.size := by
 simp [Sort.putRow, Sort.mapBlock]
theorem AW.rev {C : Tb} {T : List Nat} {s : St} {Q : Exit → St → Prop} {id : Nat} {o1 o2 : Oper} {ts : Array TypeId} {j d1 d2 k : Nat} {zs : List Int} (g1 : o1.guard = none) (g2 : o2.guard = none)
 (e1 : o1.op = .move (.tmp j)) (e1d : o1.dst = some d1) (e2 : o2.op = .call { callee := .value (.func 136), args := #[.tmp d1], argTypes := ts }) (e2d : o2.dst = some d2) (hj1 : j ≠ d1) (hj2 : j ≠ d2)
 (hj : s.t[j]? = some (.own k 1 (zs.map u8Row))) (hz : zs ≠ []) (hh : s.h = upd (fun _ => .no) k (.tok zs.length 1)) (hb : s.b ≤ k) (hl : d1 < s.t.length) (h1000 : zs.length ≤ 1000)
 (hv : ∀ i x, s.t[i]? = some x → i ≠ j → x = .any ∨ ∃ v, x = .d (.v v))
 (hQ : Q .normal ⟨((s.t.set d1 .any).set d2 .any).set j (.d (.sl 1 (zs.reverse.map u8Row))), fun _ => .no, s.b, s.n⟩) : AW Tryz.prog C T (.region id #[o1, o2] false) Q s := by
 intro c0 h0 w0 c a w hC I
 refine wp_two g1 g2 ?_
 have hjl : j < a.tmps.size := by rw [I.srep.size]; exact (List.getElem?_eq_some_iff.1 hj).1
 have hd1 : d1 < a.tmps.size := by rw [I.srep.size]; exact hl
 obtain ⟨v, hvj⟩ : ∃ v, a.tmps[j]? = some v := ⟨_, Array.getElem?_eq_getElem hjl⟩
 have hrep := I.srep.tmp j v _ hvj hj
 have hev : a.eval (.tmp j) = v := by simp [Act.eval, hvj]
 generalize hxs : zs.map u8Row = xs at hrep
 cases hrep with
 | own A cap k' z xs' m hd hk hm hτ =>
   have hlen : xs.length = zs.length := by rw [← hxs, List.length_map]
   have hzl : 0 < zs.length := List.length_pos_iff.2 hz
   rw [hh, upd_same] at hk
   have hkm : zs.length = m := by injection hk
   have hτ' := hτ (by omega)
   generalize hz1 : (.sl 1 xs : DV) = zz at hd
   generalize hvv : (.slice A xs.length cap : Value) = vv at hd
   cases hd with
   | v x h1 => cases hz1
   | sl A' cap' z' rows f hc hz' hA hN hcell hdrep =>
     cases hz1
     simp only [Value.slice.injEq] at hvv
     obtain ⟨rfl, _, rfl⟩ := hvv
     cases A with
     | none =>
       have := (hN rfl).1
       rw [this] at hlen
       simp at hlen
       omega
     | some ad =>
       have hsp := (hA ad rfl).resolve_right (by omega)
       obtain ⟨blk, off, sp⟩ := ad
       simp only at hsp
       subst hsp
       have hks : s.h k = .tok zs.length 1 := by rw [hh, upd_same]
       obtain ⟨_, t2, t3, vals, ty, t4, t5⟩ := I.srep.wd.tokS k zs.length 1 _ _ hks hτ'
       simp only [Nat.mul_one] at t3 t5
       have hblkw : blk < w.heap.size := (Array.getElem?_eq_some_iff.1 t4).1
       have hblk0 : w0.heap.size ≤ blk := by
        refine Nat.le_of_not_lt fun hlt => ?_
        have hb1 : (s.h k).blk c k = some blk := by rw [hks]; simp [AO.blk, hτ']
        have := I.fr.old k blk hb1 hlt
        rw [I.new0 k hb] at this
        cases this
       have hcells : ∀ i, i < zs.length → w.cell? ⟨blk, off + i, none⟩ = some (.int .u8 (zs.getD i 0)) := fun i hi => by
        have hrow : xs[i]? = some (u8Row (zs.getD i 0)) := by
         rw [← hxs, List.getElem?_map, List.getElem?_eq_getElem hi, List.getD_eq_getElem?_getD, List.getElem?_eq_getElem hi]
         rfl
        have h1 := (hcell _ rfl i 0 _ (.v (.int .u8 (zs.getD i 0))) hrow rfl).1
        have h2 := hdrep i 0 _ (.v (.int .u8 (zs.getD i 0))) hrow rfl
        have e : f i 0 = .int .u8 (zs.getD i 0) := by
         generalize f i 0 = q at h2
         cases h2
         rfl
        rw [e] at h1
        simpa using h1
       have hH : Sort.Holds (Value.int .u8) w blk off zs.toArray := by
        intro i hi
        have hi : i < zs.length := by simpa using hi
        refine ⟨?_, ?_⟩
        · rw [hcells i hi]
          simp [List.getD_eq_getElem?_getD, List.getElem?_eq_getElem hi, hi]
        · simp [World.frozen?, t4]
       have hcon := AnyE.slices_Reverse Go.Proofs.Tryz.lrev (Value.int .u8) (fun _ => rfl) blk off cap zs w hH (by omega)
       change Calls Tryz.prog 136 _ _ _ at hcon
       have hv' : a.tmps[j]? = some (.slice (some ⟨blk, off, none⟩) zs.length cap) := by rw [hvj, hlen]
       have run1 : (execOp a.eval o1).run Tryz.prog w = .ok (.value (.slice (some ⟨blk, off, none⟩) zs.length cap)) w := by
        have : a.eval (.tmp j) = .slice (some ⟨blk, off, none⟩) zs.length cap := by simp [Act.eval, hv']
        simp only [execOp, e1, this]
        rfl
       refine wp_val run1 ?_
       rw [e1d]
       have ev1 : (a.put (some d1) (.slice (some ⟨blk, off, none⟩) zs.length cap)).eval (.tmp d1) = .slice (some ⟨blk, off, none⟩) zs.length cap := by
        simp [Act.eval, Act.put, hd1]
       have run2 : (execOp (a.put (some d1) (.slice (some ⟨blk, off, none⟩) zs.length cap)).eval o2).run Tryz.prog w = .ok (.enter 136 #[.slice (some ⟨blk, off, none⟩) zs.length cap]) w := by
        have hent : Entered Tryz.prog 136 := Entered.of Tryz.func136 rfl (by kernel_rfl)
        simp only [execOp, e2, resolve, Deferred.ofValue, Sem.run_bind, Sem.run_pure, Result.andThen_ok, invoke]
        have := hent #[.slice (some ⟨blk, off, none⟩) zs.length cap] w
        simp [Act.eval, Act.put, hd1, Deferred.ofValue]
       refine wp_enter run2 (hcon.mono fun e w' he => ?_)
       obtain ⟨rfl, nn, hw'⟩ := he
       refine ⟨_, rfl, ?_⟩
       rw [e2d]
       replace hw' := hw'.symm
       have hH' := Sort.holds_putRow (Value.int .u8) (Sort.ahead w nn) blk off zs.toArray zs.reverse.toArray (Sort.holds_ahead _ _ _ _ _ _ hH) (by simp)
       rw [hw'] at hH'
       have hsz : w'.heap.size = w.heap.size := by rw [← hw', size_putRow]; rfl
       have hother : ∀ b, b ≠ blk → w'.heap[b]? = w.heap[b]? := fun b hb => by rw [← hw', heap_putRow _ _ _ _ _ hb]; rfl
       have hcellO : ∀ o, (o < off ∨ off + zs.length ≤ o) → w'.cell? ⟨blk, o, none⟩ = w.cell? ⟨blk, o, none⟩ := fun o ho => by
        rw [← hw', Sort.cell?_putRow_other _ _ _ _ _ _ (by right; simpa using ho)]
        rfl
       have hos : w'.os = w.os ∧ w'.tape = w.tape ∧ w'.output = w.output := by rw [← hw']; exact ⟨rfl, rfl, rfl⟩
       have hw0blk : ∀ o, w0.cell? ⟨blk, o, none⟩ = none := fun o => by
        simp [World.cell?, Array.getElem?_eq_none hblk0]
       have hcell0 : ∀ b o, c0.lo b o → w'.cell? ⟨b, o, none⟩ = w0.cell? ⟨b, o, none⟩ := fun b o hlo => by
        have h1 := I.ext.cell b o hlo
        by_cases hbb : b = blk
        · subst hbb
          rw [hw0blk] at h1
          by_cases ho : o < off ∨ off + zs.length ≤ o
          · rw [hcellO o ho, h1, hw0blk]
          · exfalso
            obtain ⟨i, rfl⟩ : ∃ i, o = off + i := ⟨o - off, by omega⟩
            rw [hcells i (by omega)] at h1
            cases h1
        · rw [← h1]
          simp [World.cell?, hother b hbb]
       refine ⟨c, ⟨((s.t.set d1 .any).set d2 .any).set j (.d (.sl 1 (zs.reverse.map u8Row))), fun _ => .no, s.b, s.n⟩, ?_, rfl, by simp, hQ⟩
       have hnoh : ∀ i, s.h i ≠ .no → i = k := fun i hi => by
        refine Classical.byContradiction fun hne => hi ?_
        rw [hh, upd_ne _ _ hne]
       refine ⟨⟨by simp [Act.put, I.srep.size], fun i u x hu hx => ?_, I.srep.defers, ?_⟩, ⟨hos.1.trans I.ext.os, hos.2.1.trans I.ext.tape, hos.2.2.trans I.ext.output, by rw [hsz]; exact I.ext.size, I.ext.lo, hcell0, fun b hb0 => ?_, fun i cs hi => ?_, fun i m' z' hi => ?_⟩, ⟨fun b hb0 hne => ?_, fun i b hi => by cases hi⟩, I.new0, I.le⟩
       ·
        by_cases hij : i = j
        · subst hij
          have : i < ((s.t.set d1 .any).set d2 .any).length := by have := (List.getElem?_eq_some_iff.1 hj).1; simpa using this
          rw [List.getElem?_set_self this] at hx
          cases hx
          have hu' : u = .slice (some ⟨blk, off, none⟩) zs.length cap := by
           simp only [Act.put] at hu
           rw [Array.getElem?_setIfInBounds_ne (Ne.symm hj2), Array.getElem?_setIfInBounds_ne (Ne.symm hj1), hv'] at hu
           cases hu
           rfl
          subst hu'
          have hl2 : zs.length = (zs.reverse.map u8Row).length := by simp
          have hcap : zs.length ≤ cap := by omega
          rw [hl2] at hcap ⊢
          refine .d _ _ (.sl _ cap 1 _ (fun i _ => .int .u8 (zs.reverse.getD i 0)) hcap (fun row hrow => ?_) (fun a ha => by cases ha; exact .inl rfl) (fun h => by cases h) (fun a ha i j row x hi hj => ?_) (fun i j row x hi hj => ?_))
          · obtain ⟨q, _, rfl⟩ := List.mem_map.1 hrow
            rfl
          · cases ha
            have hil : i < zs.length := by have := (List.getElem?_eq_some_iff.1 hi).1; simpa using this
            have hj0 : j = 0 := by
             rw [List.getElem?_map] at hi
             cases hq : zs.reverse[i]? with
             | none => rw [hq] at hi; cases hi
             | some q =>
               rw [hq] at hi
               cases hi
               match j with
               | 0 => rfl
               | j + 1 => simp [u8Row] at hj
            subst hj0
            have := (hH' i (by simpa using hil)).1
            simp only [Nat.mul_one, Nat.add_zero]
            refine ⟨?_, ?_⟩
            · rw [this]
              simp [List.getD_eq_getElem?_getD, hil]
            · unfold Cx.lo
              rw [t3]
              simp only
              omega
          · rw [List.getElem?_map] at hi
            cases hq : zs.reverse[i]? with
            | none => rw [hq] at hi; cases hi
            | some q =>
              rw [hq] at hi
              cases hi
              match j with
              | 0 =>
                simp only [u8Row, List.getElem?_cons_zero, Option.some.injEq] at hj
                subst hj
                rw [List.getD_eq_getElem?_getD, hq]
                exact .v _ rfl
              | j + 1 => simp [u8Row] at hj
        · rw [List.getElem?_set_ne (Ne.symm hij)] at hx
          by_cases hid2 : i = d2
          · subst hid2
            have : i < (s.t.set d1 .any).length := by
             refine Nat.lt_of_not_le fun hle => ?_
             rw [List.getElem?_eq_none (by simpa using hle)] at hx
             cases hx
            rw [List.getElem?_set_self this] at hx
            cases hx
            exact .any _
          · rw [List.getElem?_set_ne (Ne.symm hid2)] at hx
            by_cases hid1 : i = d1
            · subst hid1
              rw [List.getElem?_set_self hl] at hx
              cases hx
              exact .any _
            · rw [List.getElem?_set_ne (Ne.symm hid1)] at hx
              have hu' : a.tmps[i]? = some u := by
               simp only [Act.put] at hu
               rw [Array.getElem?_setIfInBounds_ne (Ne.symm hid2), Array.getElem?_setIfInBounds_ne (Ne.symm hid1)] at hu
               exact hu
              rcases hv i x hx hij with rfl | ⟨y, rfl⟩
              · exact .any _
              · have hr := I.srep.tmp i u _ hu' hx
                cases hr with
                | d _ _ hd' =>
                  cases hd' with
                  | v x h1 => exact .d _ _ (.v _ h1)
       · exact ⟨fun i cs hi => (by cases hi), fun i m z cap hi _ => (by cases hi), fun i m z a cap hi _ => (by cases hi), fun i j b _ hi _ => (by cases hi), fun b hb0 => I.srep.wd.fresh b (by rw [← hsz]; exact hb0), fun _ _ => rfl, fun p hp => by
          obtain ⟨g1, g2⟩ := I.srep.wd.glob p hp
          exact ⟨g1, by rw [hother p.1 (fun e => by rw [e, t3] at g1; cases g1)]; exact g2⟩⟩
       · obtain ⟨g1, g2⟩ := I.ext.all b hb0
         refine ⟨g1, ?_⟩
         rw [hother b (fun e => by subst e; rw [t3] at g1; cases g1), g2]
       · obtain ⟨_, cs', g2⟩ := I.ext.box i cs hi
         have := hnoh i (by rw [g2]; simp)
         subst this
         rw [hks] at g2
         cases g2
       · obtain ⟨n', g1, _⟩ := I.ext.tok i m' z' hi
         have := hnoh i (by rw [g1]; simp)
         subst this
         rw [I.new0 i hb] at hi
         cases hi
       · rw [hother b (by omega)]
         exact I.fr.far b hb0 hne
theorem of_AWP {P : Program} {F : Ft} {f : FuncId} {fn : Func} {code : Code} {S : Fs} (g : List AV → Option AV) (hf : P.funcs[f]? = some fn) (hbody : fn.body = some code) (hn : (fn.name == "runtime.NumGoroutine") = false) {rs : List ResultVar} {nt : Nat} (hrs : fn.results = rs.toArray) (hnt : fn.ntmps = nt) (hF : FtOk P F)
 (hS : ∀ args h n, S.run args h n = (g args).map fun r => (r, h, n))
 (H : ∀ args h n r, S.pre args h n → g args = some r → HOk n h → ∃ args', leL args args' ∧ (nt ≤ 900000 ∧ args'.length ≤ 50000) ∧
   AW P F.tb (S.tch args) code (FinP P rs n h r) ⟨args' ++ List.replicate (nt - args'.length) .any, h, n, n⟩) : FsOk P f S := by
 subst hnt
 refine SpOk.of_code hf hbody hn hF fun args h n K hS' hno hbx => ?_
 have hok : HOk n h := ⟨hno, hbx⟩
 rw [hrs]
 obtain ⟨hpre, hrun⟩ := hS'
 obtain ⟨⟨r, h', n'⟩, hr, hK⟩ := onO_iff hrun
 rw [hS] at hr
 cases hg : g args with
 | none => simp [hg] at hr
 | some r' =>
   simp only [hg, Option.map_some, Option.some.injEq, Prod.mk.injEq] at hr
   obtain ⟨rfl, rfl, rfl⟩ := hr
   obtain ⟨args', hle, ⟨hl1, hl2⟩, hX⟩ := H args _ _ _ hpre hg hok
   refine ⟨args', fun c w vs hl hr => leL_rep hle hl hr, ?_⟩
   refine hX.mono fun e s' _ _ q => ?_
   obtain ⟨q1, q2, q3, q4, q5⟩ := q
   cases hres : resO P s'.t s'.h rs with
   | none => rw [hres] at q3; exact q3.elim
   | some l =>
     rw [hres] at q3
     exact ⟨q1, res_ares q2 hres (AFin.pure hno q4 q3 q5 hK)⟩
theorem AW.step {P : Program} {E : EqT P} {F : Ft} {T : List Nat} {x y : Code} {Q : Exit → St → Prop} {s : St} (f : Nat) (hl : s.t.length ≤ 1000000) (h : X E F T (fun e s' => match e with
 | .normal => AW P F.tb T y Q s'
 | e => Q e s') f (.code x) [] s) : AW P F.tb T (.seq x y) Q s := AW.seq (AW.of_X f hl h)
def digits0S : Fs := ⟨fun args h n => (g1 aI64 (fun n => vS (numText n)) args).map fun r => (r, h, n), fun args h n => g1p aI64 i64 args ∧ h = (fun _ => .no) ∧ n = 0, fun _ => []⟩
theorem byteRows_u8 : ∀ l : List Int, byteRows (l.map u8Row) = some l
 | [] => rfl
 | c :: l => by simp [byteRows, u8Row, byteRows_u8 l]
def digSt (m : Nat) (sg : ByteArray) (zs : List Int) : St := ⟨fr [(3, .d (.v (.int .u64 m))), (4, vS sg), (5, .own 0 1 (zs.map u8Row))] (List.replicate 34 .any), upd (fun _ => .no) 0 (.tok zs.length 1), 0, 1⟩
theorem dig_slots (m : Nat) (sg : ByteArray) (zs : List Int) : ∀ i x, (digSt m sg zs).t[i]? = some x → i ≠ 5 → x = .any ∨ ∃ v, x = .d (.v v) := by
 intro i x hi h5
 simp only [digSt, fr] at hi
 rw [List.getElem?_set_ne (Ne.symm h5)] at hi
 by_cases h4 : i = 4
 · subst h4
   rw [List.getElem?_set_self (by simp)] at hi
   cases hi
   exact .inr ⟨_, rfl⟩
 rw [List.getElem?_set_ne (Ne.symm h4)] at hi
 by_cases h3 : i = 3
 · subst h3
   rw [List.getElem?_set_self (by simp)] at hi
   cases hi
   exact .inr ⟨_, rfl⟩
 rw [List.getElem?_set_ne (Ne.symm h3), List.getElem?_replicate] at hi
 split at hi
 · cases hi; exact .inl rfl
 · cases hi
set_option maxRecDepth 10000 in
set_option maxHeartbeats 4000000 in
theorem digits0_ok : FsOk Tryz.prog 127 digits0S := by
 refine of_AWP (F := Ft.no) (g1 aI64 fun n => vS (numText n)) Tryz.func127 rfl (by kernel_rfl) (rs := [.tmp 2]) rfl Tryz.ntmps127 (FtOk.no _) (fun _ _ _ => rfl) ?_
 intro args h n r hp hg hok
 obtain ⟨hp, rfl, rfl⟩ := hp
 obtain ⟨x, v, rfl, hx, rfl⟩ := g1_eq hg
 obtain ⟨hv1, hv2⟩ := hp v hx
 refine ⟨[vI v], ⟨aI64_le hx, trivial⟩, ⟨by decide, by simp⟩, ?_⟩
 show AW Tryz.prog Ft.no.tb [] _ _ _
 obtain ⟨m0, hm0⟩ : ∃ m0 : Nat, m0 = v.natAbs := ⟨_, rfl⟩
 obtain ⟨sg, hsg⟩ : ∃ sg : ByteArray, sg = if v < 0 then ⟨#[45]⟩ else ⟨#[]⟩ := ⟨_, rfl⟩
 have hsgs : sg.size ≤ 1 := by rw [hsg]; split <;> decide
 have hlen : (decL m0).length ≤ 20 := decL_len 19 m0 (by omega)
 have hpos : 0 < (decL m0).length := by rw [decL]; split <;> simp
 have htxt : numText v = sg ++ strOf (decL m0) := by
  unfold numText
  rw [hsg]
  by_cases hn : v < 0
  · rw [if_pos hn, if_pos hn]
    have e : (-v).toNat = m0 := by omega
    rw [e]
    exact strOf_append [45] (decL m0)
  · rw [if_neg hn, if_neg hn]
    have e : v.toNat = m0 := by omega
    rw [e]
    refine ByteArray.ext ?_
    simp [ByteArray.data_append]
 refine AW.step (E := EqT.no _) 4000 (by simp only [List.length_cons, List.length_nil, List.length_set, List.length_append, List.length_replicate]; decide) ?_
 repeat' (first | (with_reducible first | refine XG_split (fun hq => ?_) (fun hq => ?_) | refine MX1.of 4000 (by simp) ?_ | refine MX2.of 4000 (by simp) ?_ | refine And.intro ?_ ?_) | ((with_reducible first | refine Or.inl (And.intro (And.intro mixedP ?_) ?_) | refine Or.inl (And.intro mixedP ?_)); kernel_rfl) | simp only [go_sem,Nat.reduceEqDiff,Nat.reduceAdd,Nat.reduceMul,Nat.reduceLeDiff,Int.reduceBEq])
 refine AW.step (E := EqT.no _) 4000 (by simp only [List.length_cons, List.length_nil, List.length_set, List.length_append, List.length_replicate]; decide) ?_
 repeat' (first | (with_reducible first | refine XG_split (fun hq => ?_) (fun hq => ?_) | refine MX1.of 4000 (by simp) ?_ | refine MX2.of 4000 (by simp) ?_ | refine And.intro ?_ ?_) | ((with_reducible first | refine Or.inl (And.intro (And.intro mixedP ?_) ?_) | refine Or.inl (And.intro mixedP ?_)); kernel_rfl) | simp only [go_sem,Nat.reduceEqDiff,Nat.reduceAdd,Nat.reduceMul,Nat.reduceLeDiff,Int.reduceBEq])
 refine AW.step (E := EqT.no _) 4000 (by simp only [List.length_cons, List.length_nil, List.length_set, List.length_append, List.length_replicate]; decide) ?_
 have c64 : IntKind.wrap .u64 v = if v < 0 then v + 18446744073709551616 else v := by rw [IntKind.wrap_u64]; split <;> omega
 have n64 : v < 0 → IntKind.wrap .u64 (0 - (v + 18446744073709551616)) = (m0 : Int) := fun h => by rw [IntKind.wrap_u64]; omega
 have body : ∀ (s0 : St), s0.h = (fun _ => .no) → s0.b = 0 → s0.n = 0 → Wk [] s0 ⟨fr [(3, .d (.v (.int .u64 m0))), (4, vS sg)] (List.replicate 34 .any), fun _ => .no, 0, 0⟩ → True := fun _ _ _ _ _ => trivial
 by_cases hn : v < 0
 · have d0 : decide (v < 0) = true := decide_eq_true hn
   have hs1 : sg = ⟨#[45]⟩ := by rw [hsg, if_pos hn]
   rw [if_pos hn] at c64
   have n64 := n64 hn
   repeat' (first | (with_reducible first | refine XG_split (fun hq => ?_) (fun hq => ?_) | refine MX1.of 4000 (by simp) ?_ | refine MX2.of 4000 (by simp) ?_ | refine And.intro ?_ ?_) | ((with_reducible first | refine Or.inl (And.intro (And.intro mixedP ?_) ?_) | refine Or.inl (And.intro mixedP ?_)); kernel_rfl) | simp only [go_sem,Nat.reduceEqDiff,Nat.reduceAdd,Nat.reduceMul,Nat.reduceLeDiff,Int.reduceBEq,d0,c64,n64])
   refine AW.step (E := EqT.no _) 4000 (by simp only [List.length_cons, List.length_nil, List.length_set, List.length_append, List.length_replicate]; decide) ?_
   repeat' (first | (with_reducible first | refine XG_split (fun hq => ?_) (fun hq => ?_) | refine MX1.of 4000 (by simp) ?_ | refine MX2.of 4000 (by simp) ?_ | refine And.intro ?_ ?_) | ((with_reducible first | refine Or.inl (And.intro (And.intro mixedP ?_) ?_) | refine Or.inl (And.intro mixedP ?_)); kernel_rfl) | simp only [go_sem,Nat.reduceEqDiff,Nat.reduceAdd,Nat.reduceMul,Nat.reduceLeDiff,Int.reduceBEq])
   refine AW.wk (Wk.nil (j := 5) 1 rfl) ?_
   refine AW.step (E := EqT.no _) 4000 (by simp only [List.length_cons, List.length_nil, List.length_set, List.length_append, List.length_replicate]; decide) ?_
   repeat' (first | (with_reducible first | refine XG_split (fun hq => ?_) (fun hq => ?_) | refine MX1.of 4000 (by simp) ?_ | refine MX2.of 4000 (by simp) ?_ | refine And.intro ?_ ?_) | ((with_reducible first | refine Or.inl (And.intro (And.intro mixedP ?_) ?_) | refine Or.inl (And.intro mixedP ?_)); kernel_rfl) | simp only [go_sem,Nat.reduceEqDiff,Nat.reduceAdd,Nat.reduceMul,Nat.reduceLeDiff,Int.reduceBEq])
   refine AW.loopJ (E := EqT.no _) (S := fun x : Nat × List Int => digSt x.1 sg x.2) (I := fun x => x.1 ≤ m0 ∧ (x.2 = [] → x.1 = m0) ∧ (x.2 ≠ [] → (if x.1 = 0 then [] else decL x.1) ++ x.2.reverse = decL m0)) (μ := fun x => if x.2 = [] then x.1 + 1 else x.1) (m0, []) ⟨Nat.le_refl _, fun _ => rfl, fun h => absurd rfl h⟩ ?_ 4000 (fun _ => by simp only [digSt, fr_len, List.length_replicate]; decide) ?_
   · refine Wk.same (by simp only [go_sem, digSt, hs1, List.map_nil]) ⟨fun i hi => by rw [upd_ne _ _ (by omega)], fun i cs hi => by simp only [upd] at hi; split at hi <;> cases hi⟩ (by omega) (by simp only [go_sem, digSt, List.map_nil]; omega)
   · rintro ⟨m, zs⟩ ⟨hm, hI1, hI2⟩
     simp only at hm hI1 hI2
     have hm18 : m ≤ 9223372036854775808 := by omega
     have w1 : IntKind.wrap .u64 (48 + ((m % 10 : Nat) : Int)) = 48 + ((m % 10 : Nat) : Int) := by rw [IntKind.wrap_u64]; omega
     have w2 := dig_u8 m
     have w3 : IntKind.wrap .u64 ((m / 10 : Nat) : Int) = ((m / 10 : Nat) : Int) := by rw [IntKind.wrap_u64]; omega
     have hHOk : ∀ k : Nat, HOk 1 (upd (fun _ => .no) 0 (.tok k 1)) := fun k => ⟨fun i hi => by rw [upd_ne _ _ (by omega)], fun i cs hi => by simp only [upd] at hi; split at hi <;> cases hi⟩
     cases zs with
     | nil =>
       have hmm := hI1 rfl
       by_cases hmz : m = 0
       · have dm : decide (0 < m) = false := decide_eq_false (by omega)
         repeat' (first | (with_reducible first | refine XG_split (fun hq => ?_) (fun hq => ?_) | refine MX1.of 4000 (by simp) ?_ | refine MX2.of 4000 (by simp) ?_ | refine And.intro ?_ ?_) | ((with_reducible first | refine Or.inl (And.intro (And.intro mixedP ?_) ?_) | refine Or.inl (And.intro mixedP ?_)); kernel_rfl) | simp only [go_sem,Nat.reduceEqDiff,Nat.reduceAdd,Nat.reduceMul,Nat.reduceLeDiff,Int.reduceBEq,List.map_cons,List.map_nil,digSt,w1,w2,w3,dm])
         all_goals first | omega | (unfold maxLen; omega) | (right; omega) | (left; simp; done) | (simp only [wk3,wkL2,wk2,wkL,wk1_d,wk1_own,wk1_nil,and_self]; done) | (intro i hi; simp only [upd]; (repeat' split); all_goals first | rfl | omega) | skip
         all_goals exact ⟨(m / 10, [48 + ((m % 10 : Nat) : Int)]), ⟨by show m / 10 ≤ m0; omega, fun h => (by cases h), fun _ => by
          show (if m / 10 = 0 then [] else decL (m / 10)) ++ [48 + ((m % 10 : Nat) : Int)] = decL m0
          rw [← hmm, hmz]
          decide +kernel⟩, Wk.of (by simp only [go_sem, digSt, List.map_cons, List.map_nil, u8Row]) (by intro i hi; simp only [upd, digSt, List.length_cons, List.length_nil]; (repeat' split); all_goals first | rfl | omega) (hHOk _) (by omega) (by omega) (by simp only [go_sem, digSt]; omega), by show m / 10 < m + 1; omega⟩
       · have dm : decide (0 < m) = true := decide_eq_true (by omega)
         repeat' (first | (with_reducible first | refine XG_split (fun hq => ?_) (fun hq => ?_) | refine MX1.of 4000 (by simp) ?_ | refine MX2.of 4000 (by simp) ?_ | refine And.intro ?_ ?_) | ((with_reducible first | refine Or.inl (And.intro (And.intro mixedP ?_) ?_) | refine Or.inl (And.intro mixedP ?_)); kernel_rfl) | simp only [go_sem,Nat.reduceEqDiff,Nat.reduceAdd,Nat.reduceMul,Nat.reduceLeDiff,Int.reduceBEq,List.map_cons,List.map_nil,digSt,w1,w2,w3,dm])
         all_goals first | omega | (unfold maxLen; omega) | (right; omega) | (left; simp; done) | (simp only [wk3,wkL2,wk2,wkL,wk1_d,wk1_own,wk1_nil,and_self]; done) | (intro i hi; simp only [upd]; (repeat' split); all_goals first | rfl | omega) | skip
         refine ⟨(m / 10, [48 + ((m % 10 : Nat) : Int)]), ⟨by show m / 10 ≤ m0; omega, fun h => (by cases h), fun _ => ?_⟩, Wk.of (by simp only [go_sem, digSt, List.map_cons, List.map_nil, u8Row]) (by intro i hi; simp only [upd, digSt, List.length_cons, List.length_nil]; (repeat' split); all_goals first | rfl | omega) (hHOk _) (by omega) (by omega) (by simp only [go_sem, digSt]; omega), by show m / 10 < m + 1; omega⟩
         show (if m / 10 = 0 then [] else decL (m / 10)) ++ [48 + ((m % 10 : Nat) : Int)] = decL m0
         rw [← hmm]
         by_cases h10 : m / 10 = 0
         · rw [if_pos h10, decL_last m h10]; rfl
         · rw [if_neg h10, decL_step m (by omega)]
     | cons z zs =>
       have hE := hI2 (by simp)
       have hzl : (z :: zs).length ≤ 20 := by
        have := congrArg List.length hE
        rw [List.length_append, List.length_reverse] at this
        omega
       simp only [List.length_cons] at hzl
       have dl : ((zs.length : Int) + 1 == 0) = false := by rw [beq_eq_false_iff_ne]; omega
       by_cases hmz : m = 0
       · have dm : decide (0 < m) = false := decide_eq_false (by omega)
         rw [if_pos hmz, List.nil_append] at hE
         repeat' (first | (with_reducible first | refine XG_split (fun hq => ?_) (fun hq => ?_) | refine MX1.of 4000 (by simp) ?_ | refine MX2.of 4000 (by simp) ?_ | refine And.intro ?_ ?_) | ((with_reducible first | refine Or.inl (And.intro (And.intro mixedP ?_) ?_) | refine Or.inl (And.intro mixedP ?_)); kernel_rfl) | simp only [go_sem,Nat.reduceEqDiff,Nat.reduceAdd,Nat.reduceMul,Nat.reduceLeDiff,Int.reduceBEq,List.map_cons,List.map_nil,digSt,w1,w2,w3,dm,dl])
         all_goals first | omega | (unfold maxLen; omega) | (right; omega) | (left; simp; done) | (simp only [wk3,wkL2,wk2,wkL,wk1_d,wk1_own,wk1_nil,and_self]; done) | (intro i hi; simp only [upd]; (repeat' split); all_goals first | rfl | omega) | skip
         refine AW.wk (Wk.of (t1 := (digSt m sg (z :: zs)).t) (h1 := (digSt m sg (z :: zs)).h) (n1 := 1) (by simp only [go_sem, digSt, List.map_cons]) (fun i hi => rfl) (hHOk _) (Nat.le_refl _) (by omega) (by simp only [go_sem, digSt, List.map_cons]; omega)) ?_
         refine AW.seq ?_
         refine AW.rev (j := 5) (k := 0) (zs := z :: zs) rfl rfl rfl rfl rfl rfl (by decide) (by decide) rfl (by simp) rfl (Nat.le_refl _) (by simp only [digSt, fr_len, List.length_replicate]; decide) (by simp only [List.length_cons]; omega) (dig_slots m sg (z :: zs)) ?_
         show AW Tryz.prog Ft.no.tb [] _ _ _
         refine AW.of_X (E := EqT.no _) 4000 (by simp [digSt, fr_len]) ?_
         rw [hE]
         repeat' (first | (with_reducible first | refine XG_split (fun hq => ?_) (fun hq => ?_) | refine MX1.of 4000 (by simp) ?_ | refine MX2.of 4000 (by simp) ?_ | refine And.intro ?_ ?_) | ((with_reducible first | refine Or.inl (And.intro (And.intro mixedP ?_) ?_) | refine Or.inl (And.intro mixedP ?_)); kernel_rfl) | simp only [go_sem,Nat.reduceEqDiff,Nat.reduceAdd,Nat.reduceMul,Nat.reduceLeDiff,Int.reduceBEq,digSt,byteRows_u8])
         all_goals try simp only [strOf_size]
         all_goals first | omega | (unfold maxLen; omega) | (right; omega) | (left; simp; done) | (simp only [wk3,wkL2,wk2,wkL,wk1_d,wk1_own,wk1_nil,and_self]; done) | (intro i hi; simp only [upd]; (repeat' split); all_goals first | rfl | omega) | skip
         all_goals exact wk_v (congrArg Value.string htxt.symm)
       · have dm : decide (0 < m) = true := decide_eq_true (by omega)
         rw [if_neg hmz] at hE
         repeat' (first | (with_reducible first | refine XG_split (fun hq => ?_) (fun hq => ?_) | refine MX1.of 4000 (by simp) ?_ | refine MX2.of 4000 (by simp) ?_ | refine And.intro ?_ ?_) | ((with_reducible first | refine Or.inl (And.intro (And.intro mixedP ?_) ?_) | refine Or.inl (And.intro mixedP ?_)); kernel_rfl) | simp only [go_sem,Nat.reduceEqDiff,Nat.reduceAdd,Nat.reduceMul,Nat.reduceLeDiff,Int.reduceBEq,List.map_cons,List.map_nil,digSt,w1,w2,w3,dm,dl])
         all_goals first | omega | (unfold maxLen; omega) | (right; omega) | (left; simp; done) | (simp only [wk3,wkL2,wk2,wkL,wk1_d,wk1_own,wk1_nil,and_self]; done) | (intro i hi; simp only [upd]; (repeat' split); all_goals first | rfl | omega) | skip
         refine ⟨(m / 10, z :: zs ++ [48 + ((m % 10 : Nat) : Int)]), ⟨by show m / 10 ≤ m0; omega, fun h => (by simp at h), fun _ => ?_⟩, Wk.of (by simp only [go_sem, digSt, List.map_cons, List.map_nil, List.map_append, u8Row]) (by intro i hi; simp only [upd, digSt, List.length_cons, List.length_nil, List.length_append]; (repeat' split); all_goals first | rfl | omega) (hHOk _) (by omega) (by omega) (by simp only [go_sem, digSt]; omega), by simp; omega⟩
         show (if m / 10 = 0 then [] else decL (m / 10)) ++ (z :: zs ++ [48 + ((m % 10 : Nat) : Int)]).reverse = decL m0
         rw [← hE, List.reverse_append]
         by_cases h10 : m / 10 = 0
         · rw [if_pos h10, decL_last m h10]; rfl
         · rw [if_neg h10, decL_step m (by omega)]
           simp
 · have d0 : decide (v < 0) = false := decide_eq_false hn
   have hs1 : sg = ⟨#[]⟩ := by rw [hsg, if_neg hn]
   rw [if_neg hn] at c64
   have c64 : IntKind.wrap .u64 v = (m0 : Int) := by rw [c64]; omega
   repeat' (first | (with_reducible first | refine XG_split (fun hq => ?_) (fun hq => ?_) | refine MX1.of 4000 (by simp) ?_ | refine MX2.of 4000 (by simp) ?_ | refine And.intro ?_ ?_) | ((with_reducible first | refine Or.inl (And.intro (And.intro mixedP ?_) ?_) | refine Or.inl (And.intro mixedP ?_)); kernel_rfl) | simp only [go_sem,Nat.reduceEqDiff,Nat.reduceAdd,Nat.reduceMul,Nat.reduceLeDiff,Int.reduceBEq,d0,c64])
   refine AW.step (E := EqT.no _) 4000 (by simp only [List.length_cons, List.length_nil, List.length_set, List.length_append, List.length_replicate]; decide) ?_
   repeat' (first | (with_reducible first | refine XG_split (fun hq => ?_) (fun hq => ?_) | refine MX1.of 4000 (by simp) ?_ | refine MX2.of 4000 (by simp) ?_ | refine And.intro ?_ ?_) | ((with_reducible first | refine Or.inl (And.intro (And.intro mixedP ?_) ?_) | refine Or.inl (And.intro mixedP ?_)); kernel_rfl) | simp only [go_sem,Nat.reduceEqDiff,Nat.reduceAdd,Nat.reduceMul,Nat.reduceLeDiff,Int.reduceBEq])
   refine AW.wk (Wk.nil (j := 5) 1 rfl) ?_
   refine AW.step (E := EqT.no _) 4000 (by simp only [List.length_cons, List.length_nil, List.length_set, List.length_append, List.length_replicate]; decide) ?_
   repeat' (first | (with_reducible first | refine XG_split (fun hq => ?_) (fun hq => ?_) | refine MX1.of 4000 (by simp) ?_ | refine MX2.of 4000 (by simp) ?_ | refine And.intro ?_ ?_) | ((with_reducible first | refine Or.inl (And.intro (And.intro mixedP ?_) ?_) | refine Or.inl (And.intro mixedP ?_)); kernel_rfl) | simp only [go_sem,Nat.reduceEqDiff,Nat.reduceAdd,Nat.reduceMul,Nat.reduceLeDiff,Int.reduceBEq])
   refine AW.loopJ (E := EqT.no _) (S := fun x : Nat × List Int => digSt x.1 sg x.2) (I := fun x => x.1 ≤ m0 ∧ (x.2 = [] → x.1 = m0) ∧ (x.2 ≠ [] → (if x.1 = 0 then [] else decL x.1) ++ x.2.reverse = decL m0)) (μ := fun x => if x.2 = [] then x.1 + 1 else x.1) (m0, []) ⟨Nat.le_refl _, fun _ => rfl, fun h => absurd rfl h⟩ ?_ 4000 (fun _ => by simp only [digSt, fr_len, List.length_replicate]; decide) ?_
   · refine Wk.same (by simp only [go_sem, digSt, hs1, List.map_nil]) ⟨fun i hi => by rw [upd_ne _ _ (by omega)], fun i cs hi => by simp only [upd] at hi; split at hi <;> cases hi⟩ (by omega) (by simp only [go_sem, digSt, List.map_nil]; omega)
   · rintro ⟨m, zs⟩ ⟨hm, hI1, hI2⟩
     simp only at hm hI1 hI2
     have hm18 : m ≤ 9223372036854775808 := by omega
     have w1 : IntKind.wrap .u64 (48 + ((m % 10 : Nat) : Int)) = 48 + ((m % 10 : Nat) : Int) := by rw [IntKind.wrap_u64]; omega
     have w2 := dig_u8 m
     have w3 : IntKind.wrap .u64 ((m / 10 : Nat) : Int) = ((m / 10 : Nat) : Int) := by rw [IntKind.wrap_u64]; omega
     have hHOk : ∀ k : Nat, HOk 1 (upd (fun _ => .no) 0 (.tok k 1)) := fun k => ⟨fun i hi => by rw [upd_ne _ _ (by omega)], fun i cs hi => by simp only [upd] at hi; split at hi <;> cases hi⟩
     cases zs with
     | nil =>
       have hmm := hI1 rfl
       by_cases hmz : m = 0
       · have dm : decide (0 < m) = false := decide_eq_false (by omega)
         repeat' (first | (with_reducible first | refine XG_split (fun hq => ?_) (fun hq => ?_) | refine MX1.of 4000 (by simp) ?_ | refine MX2.of 4000 (by simp) ?_ | refine And.intro ?_ ?_) | ((with_reducible first | refine Or.inl (And.intro (And.intro mixedP ?_) ?_) | refine Or.inl (And.intro mixedP ?_)); kernel_rfl) | simp only [go_sem,Nat.reduceEqDiff,Nat.reduceAdd,Nat.reduceMul,Nat.reduceLeDiff,Int.reduceBEq,List.map_cons,List.map_nil,digSt,w1,w2,w3,dm])
         all_goals first | omega | (unfold maxLen; omega) | (right; omega) | (left; simp; done) | (simp only [wk3,wkL2,wk2,wkL,wk1_d,wk1_own,wk1_nil,and_self]; done) | (intro i hi; simp only [upd]; (repeat' split); all_goals first | rfl | omega) | skip
         all_goals exact ⟨(m / 10, [48 + ((m % 10 : Nat) : Int)]), ⟨by show m / 10 ≤ m0; omega, fun h => (by cases h), fun _ => by
          show (if m / 10 = 0 then [] else decL (m / 10)) ++ [48 + ((m % 10 : Nat) : Int)] = decL m0
          rw [← hmm, hmz]
          decide +kernel⟩, Wk.of (by simp only [go_sem, digSt, List.map_cons, List.map_nil, u8Row]) (by intro i hi; simp only [upd, digSt, List.length_cons, List.length_nil]; (repeat' split); all_goals first | rfl | omega) (hHOk _) (by omega) (by omega) (by simp only [go_sem, digSt]; omega), by show m / 10 < m + 1; omega⟩
       · have dm : decide (0 < m) = true := decide_eq_true (by omega)
         repeat' (first | (with_reducible first | refine XG_split (fun hq => ?_) (fun hq => ?_) | refine MX1.of 4000 (by simp) ?_ | refine MX2.of 4000 (by simp) ?_ | refine And.intro ?_ ?_) | ((with_reducible first | refine Or.inl (And.intro (And.intro mixedP ?_) ?_) | refine Or.inl (And.intro mixedP ?_)); kernel_rfl) | simp only [go_sem,Nat.reduceEqDiff,Nat.reduceAdd,Nat.reduceMul,Nat.reduceLeDiff,Int.reduceBEq,List.map_cons,List.map_nil,digSt,w1,w2,w3,dm])
         all_goals first | omega | (unfold maxLen; omega) | (right; omega) | (left; simp; done) | (simp only [wk3,wkL2,wk2,wkL,wk1_d,wk1_own,wk1_nil,and_self]; done) | (intro i hi; simp only [upd]; (repeat' split); all_goals first | rfl | omega) | skip
         refine ⟨(m / 10, [48 + ((m % 10 : Nat) : Int)]), ⟨by show m / 10 ≤ m0; omega, fun h => (by cases h), fun _ => ?_⟩, Wk.of (by simp only [go_sem, digSt, List.map_cons, List.map_nil, u8Row]) (by intro i hi; simp only [upd, digSt, List.length_cons, List.length_nil]; (repeat' split); all_goals first | rfl | omega) (hHOk _) (by omega) (by omega) (by simp only [go_sem, digSt]; omega), by show m / 10 < m + 1; omega⟩
         show (if m / 10 = 0 then [] else decL (m / 10)) ++ [48 + ((m % 10 : Nat) : Int)] = decL m0
         rw [← hmm]
         by_cases h10 : m / 10 = 0
         · rw [if_pos h10, decL_last m h10]; rfl
         · rw [if_neg h10, decL_step m (by omega)]
     | cons z zs =>
       have hE := hI2 (by simp)
       have hzl : (z :: zs).length ≤ 20 := by
        have := congrArg List.length hE
        rw [List.length_append, List.length_reverse] at this
        omega
       simp only [List.length_cons] at hzl
       have dl : ((zs.length : Int) + 1 == 0) = false := by rw [beq_eq_false_iff_ne]; omega
       by_cases hmz : m = 0
       · have dm : decide (0 < m) = false := decide_eq_false (by omega)
         rw [if_pos hmz, List.nil_append] at hE
         repeat' (first | (with_reducible first | refine XG_split (fun hq => ?_) (fun hq => ?_) | refine MX1.of 4000 (by simp) ?_ | refine MX2.of 4000 (by simp) ?_ | refine And.intro ?_ ?_) | ((with_reducible first | refine Or.inl (And.intro (And.intro mixedP ?_) ?_) | refine Or.inl (And.intro mixedP ?_)); kernel_rfl) | simp only [go_sem,Nat.reduceEqDiff,Nat.reduceAdd,Nat.reduceMul,Nat.reduceLeDiff,Int.reduceBEq,List.map_cons,List.map_nil,digSt,w1,w2,w3,dm,dl])
         all_goals first | omega | (unfold maxLen; omega) | (right; omega) | (left; simp; done) | (simp only [wk3,wkL2,wk2,wkL,wk1_d,wk1_own,wk1_nil,and_self]; done) | (intro i hi; simp only [upd]; (repeat' split); all_goals first | rfl | omega) | skip
         refine AW.wk (Wk.of (t1 := (digSt m sg (z :: zs)).t) (h1 := (digSt m sg (z :: zs)).h) (n1 := 1) (by simp only [go_sem, digSt, List.map_cons]) (fun i hi => rfl) (hHOk _) (Nat.le_refl _) (by omega) (by simp only [go_sem, digSt, List.map_cons]; omega)) ?_
         refine AW.seq ?_
         refine AW.rev (j := 5) (k := 0) (zs := z :: zs) rfl rfl rfl rfl rfl rfl (by decide) (by decide) rfl (by simp) rfl (Nat.le_refl _) (by simp only [digSt, fr_len, List.length_replicate]; decide) (by simp only [List.length_cons]; omega) (dig_slots m sg (z :: zs)) ?_
         show AW Tryz.prog Ft.no.tb [] _ _ _
         refine AW.of_X (E := EqT.no _) 4000 (by simp [digSt, fr_len]) ?_
         rw [hE]
         repeat' (first | (with_reducible first | refine XG_split (fun hq => ?_) (fun hq => ?_) | refine MX1.of 4000 (by simp) ?_ | refine MX2.of 4000 (by simp) ?_ | refine And.intro ?_ ?_) | ((with_reducible first | refine Or.inl (And.intro (And.intro mixedP ?_) ?_) | refine Or.inl (And.intro mixedP ?_)); kernel_rfl) | simp only [go_sem,Nat.reduceEqDiff,Nat.reduceAdd,Nat.reduceMul,Nat.reduceLeDiff,Int.reduceBEq,digSt,byteRows_u8])
         all_goals try simp only [strOf_size]
         all_goals first | omega | (unfold maxLen; omega) | (right; omega) | (left; simp; done) | (simp only [wk3,wkL2,wk2,wkL,wk1_d,wk1_own,wk1_nil,and_self]; done) | (intro i hi; simp only [upd]; (repeat' split); all_goals first | rfl | omega) | skip
         all_goals exact wk_v (congrArg Value.string htxt.symm)
       · have dm : decide (0 < m) = true := decide_eq_true (by omega)
         rw [if_neg hmz] at hE
         repeat' (first | (with_reducible first | refine XG_split (fun hq => ?_) (fun hq => ?_) | refine MX1.of 4000 (by simp) ?_ | refine MX2.of 4000 (by simp) ?_ | refine And.intro ?_ ?_) | ((with_reducible first | refine Or.inl (And.intro (And.intro mixedP ?_) ?_) | refine Or.inl (And.intro mixedP ?_)); kernel_rfl) | simp only [go_sem,Nat.reduceEqDiff,Nat.reduceAdd,Nat.reduceMul,Nat.reduceLeDiff,Int.reduceBEq,List.map_cons,List.map_nil,digSt,w1,w2,w3,dm,dl])
         all_goals first | omega | (unfold maxLen; omega) | (right; omega) | (left; simp; done) | (simp only [wk3,wkL2,wk2,wkL,wk1_d,wk1_own,wk1_nil,and_self]; done) | (intro i hi; simp only [upd]; (repeat' split); all_goals first | rfl | omega) | skip
         refine ⟨(m / 10, z :: zs ++ [48 + ((m % 10 : Nat) : Int)]), ⟨by show m / 10 ≤ m0; omega, fun h => (by simp at h), fun _ => ?_⟩, Wk.of (by simp only [go_sem, digSt, List.map_cons, List.map_nil, List.map_append, u8Row]) (by intro i hi; simp only [upd, digSt, List.length_cons, List.length_nil, List.length_append]; (repeat' split); all_goals first | rfl | omega) (hHOk _) (by omega) (by omega) (by simp only [go_sem, digSt]; omega), by simp; omega⟩
         show (if m / 10 = 0 then [] else decL (m / 10)) ++ (z :: zs ++ [48 + ((m % 10 : Nat) : Int)]).reverse = decL m0
         rw [← hE, List.reverse_append]
         by_cases h10 : m / 10 = 0
         · rw [if_pos h10, decL_last m h10]; rfl
         · rw [if_neg h10, decL_step m (by omega)]
           simp
abbrev digitsS : Fs := .pureIf (g1p aI64 i64) (g1 aI64 fun n => vS (numText n))
theorem digits_ok : FsOk Tryz.prog 127 digitsS := by
 intro c h n w vals args K hw hl hr hS
 obtain ⟨hpre, hS⟩ := hS
 obtain ⟨q, hq, hK⟩ := onO_iff hS
 simp only [Fs.pureIf] at hq hpre
 cases hg : g1 aI64 (fun n => vS (numText n)) args with
 | none => simp [hg] at hq
 | some r =>
   simp only [hg, Option.map_some, Option.some.injEq] at hq
   subst hq
   obtain ⟨x, v, rfl, hx, rfl⟩ := g1_eq hg
   obtain ⟨u, hu⟩ : ∃ u, vals = [u] := by
    match vals, hl with
    | [u], _ => exact ⟨u, rfl⟩
   subst hu
   have hxv : x = vI v := by
    unfold aI64 at hx
    split at hx
    · cases hx; rfl
    · cases hx
   subst hxv
   have hru := hr 0 u _ rfl rfl
   obtain rfl := cval_rep hru rfl
   let cF : Cx := ⟨fun b => if b < w.heap.size then none else some 0, fun _ => 0, fun _ => (none, 0)⟩
   have hwF : Wd cF (fun _ => .no) 0 w := ⟨fun i cs hi => (by cases hi), fun i m z cap hi _ => (by cases hi), fun i m z a cap hi _ => (by cases hi), fun i j b _ hi _ => (by cases hi), fun b hb => if_neg (Nat.not_lt.2 hb), fun _ _ => rfl, fun p hp => ⟨if_pos (all_lt hw (hw.glob p hp).1), (hw.glob p hp).2⟩⟩
   have hrF : ∀ (j : Nat) u x, [(.int .i64 v : Value)][j]? = some u → [vI v][j]? = some x → ARep cF (fun _ => .no) w u x := fun j u x hu hx => by
    match j with
    | 0 =>
      simp only [List.getElem?_cons_zero, Option.some.injEq] at hu hx
      subst hu; subst hx
      exact .d _ _ (.v _ rfl)
    | j + 1 => simp at hu
   obtain ⟨hent, hcalls⟩ := digits0_ok cF (fun _ => .no) 0 w [.int .i64 v] [vI v] (fun r _ _ => r = vS (numText v)) hwF rfl hrF ⟨⟨hpre, rfl, rfl⟩, by
    show onO ((g1 aI64 (fun n => vS (numText n)) [vI v]).map fun r => (r, (fun _ => AO.no), 0)) _
    rw [hg]
    exact rfl⟩
   refine ⟨hent, hcalls.mono fun e w' he => ?_⟩
   obtain ⟨y, r, c', h', n', rfl, r1, r2, r3, r4, r5, rfl⟩ := he
   obtain rfl := cval_rep r4 rfl
   have hb : Below w.heap.size w w' := ⟨r2.os, r2.tape, r2.output, r2.size, fun b hb => (r2.all b (if_pos hb)).2⟩
   obtain ⟨g1, g2⟩ := wd_same hw hb
   exact ⟨_, _, c, h, n, rfl, g1, g2, ⟨fun b hbl _ => hb.block b hbl, fun i b q _ => q⟩, .d _ _ (.v _ rfl), Nat.le_refl n, hK⟩
end Go.Proofs.YtfhpecgknmfnnaaGreatDoor.M
end
section
namespace Go.Proofs.YtfhpecgknmfnnaaGreatDoor.M
open Go.R
theorem of_rep {P : Program} {f : FuncId} {fn : Func} {code : Code} {g : List AV → Option AV} {pre : List AV → Prop} (hf : P.funcs[f]? = some fn) (hbody : fn.body = some code) (hn : (fn.name == "runtime.NumGoroutine") = false)
 (H : ∀ (args : List AV) (r : AV) (c : Cx) (h : AH) (n : Nat) (w : World) (vals : List Value), pre args → g args = some r → Wd c h n w → vals.length = args.length → (∀ (j : Nat) v x, vals[j]? = some v → args[j]? = some x → ARep c h w v x) → ∃ x, (∀ c h w, ARep c h w x r) ∧ Calls P f vals.toArray w fun e w' => e = .returned x ∧ Go.RowKit.Below w.heap.size w w') : FsOk P f (.pureIf pre g) := by
 intro c h n w vals args K hw hl hr hS
 obtain ⟨hpre, hS⟩ := hS
 obtain ⟨q, hq, hK⟩ := onO_iff hS
 refine ⟨Entered.of hf hbody hn, ?_⟩
 simp only [Fs.pureIf] at hq hpre
 cases hg : g args with
 | none => simp [hg] at hq
 | some r =>
   simp only [hg, Option.map_some, Option.some.injEq] at hq
   subst hq
   obtain ⟨x, h2, h3⟩ := H args r c h n w vals hpre hg hw hl hr
   refine h3.mono fun e w' ⟨he, hb⟩ => ?_
   obtain ⟨g1, g2⟩ := wd_same hw hb
   exact ⟨x, r, c, h, n, he, g1, g2, ⟨fun b hbl _ => hb.block b hbl, fun i b q _ => q⟩, h2 c h w', Nat.le_refl n, hK⟩
def aStrs (x : AV) : Option (List ByteArray) := match rowsOf 1 x with
 | some xs => dRows cStr xs
 | none => none
attribute [go_sem] aStrs
theorem ext_data {a b : ByteArray} (h : a.data.toList = b.data.toList) : a = b := by
 obtain ⟨⟨x⟩⟩ := a
 obtain ⟨⟨y⟩⟩ := b
 simp only at h
 rw [h]
def joinL (xs : List ByteArray) (sep : ByteArray) : List UInt8 := Go.Lib.join (xs.map (·.data.toList)) sep.data.toList
def joinB (xs : List ByteArray) (sep : ByteArray) : ByteArray := ⟨(joinL xs sep).toArray⟩
abbrev joinS : Fs := .pureIf (g2p aStrs aStr fun xs sep => xs.length ≤ 1099511627776 ∧ (joinL xs sep).length ≤ 140737488355328) (g2 aStrs aStr fun xs sep => vS (joinB xs sep))
theorem strJoin_ok : FsOk Tryz.prog 87 joinS := by
 refine of_rep Tryz.func87 rfl (by kernel_rfl) ?_
 intro args r c h n w vals hp hg hw hl hr
 obtain ⟨x, y, xs, sep, rfl, hx, hy, rfl⟩ := g2_eq hg
 obtain ⟨hmax, hp⟩ := hp xs hx sep hy
 obtain rfl := aStr_eq hy
 refine ⟨.string (joinB xs sep), fun _ _ _ => .d _ _ (.v _ rfl), ?_⟩
 match vals, hl with
 | [v, u], _ =>
   have hu := hr 1 u _ rfl rfl
   obtain rfl := cval_rep hu rfl
   have hv := hr 0 v _ rfl rfl
   unfold aStrs at hx
   cases hrow : rowsOf 1 x with
   | none => simp [hrow] at hx
   | some rows =>
     simp only [hrow] at hx
     obtain rfl := dRows_eq (fun c x => cStr_eq) hx
     obtain ⟨A, cap, rfl, hd⟩ := rowsOf_rep hv hrow
     rw [List.length_map] at hd ⊢
     cases xs with
     | nil => exact (Go.Proofs.Tryz.strings_Join_none A cap sep w).mono fun e w' ⟨he, hw'⟩ => ⟨he, by subst hw'; exact Go.RowKit.Below.refl _ _⟩
     | cons s0 rest =>
       generalize hxs : s0 :: rest = xs at hd hp hmax
       have hpos : 0 < xs.length := by rw [← hxs]; simp
       have hlen : ((xs.map strRow).length) = xs.length := List.length_map _
       rw [← hlen] at hd
       generalize hz : (.sl 1 (xs.map strRow) : DV) = z at hd
       generalize hvv : (.slice A (xs.map strRow).length cap : Value) = vv at hd
       cases hd with
       | v x h1 => cases hz
       | sl A' cap' z' rows f hc hz' hA hN hcell hrep =>
         cases hz
         have hvv := hvv
         simp only [Value.slice.injEq] at hvv
         obtain ⟨rfl, _, rfl⟩ := hvv
         cases A with
         | none =>
           have := (hN rfl).1
           rw [← hxs] at this
           simp at this
         | some a =>
           have hsp := (hA a rfl).resolve_right (by have := hc; rw [hlen] at this; omega)
           obtain ⟨bk, off, sp⟩ := a
           simp only at hsp
           subst hsp
           have hrow' : ∀ (j : Nat) s, xs[j]? = some s → (xs.map strRow)[j]? = some (strRow s) := fun j s hj => by rw [List.getElem?_map, hj]; rfl
           have hcells : ∀ (j : Nat) s, xs[j]? = some s → w.cell? ⟨bk, off + j, none⟩ = some (.string s) ∧ c.lo bk (off + j) := fun j s hj => by
            have h1 := hcell _ rfl j 0 (strRow s) (.v (.string s)) (hrow' j s hj) rfl
            have h2 := hrep j 0 (strRow s) (.v (.string s)) (hrow' j s hj) rfl
            have e : f j 0 = .string s := by
             generalize f j 0 = q at h2
             cases h2
             rfl
            rw [e] at h1
            simpa [Nat.mul_one] using h1
           have hlo : bk < w.heap.size := lo_lt hw (hcells 0 _ (List.getElem?_eq_getElem hpos)).2
           exact (Go.Proofs.Tryz.strings_Join bk off cap xs sep w (fun j s hj => (hcells j s hj).1) hlo (by omega) (by rw [hlen] at hc; exact hc) hp).mono fun e w' ⟨he, hb⟩ => ⟨he, hb⟩
abbrev ptextS : Fs := .pureIf (g1p aVal fun v => i64 v.num) (g1 aVal fun v => .tup [vS (textB v), vB (goodV v)])
abbrev showTermS : Fs := .pureIf (g1p aTerm fun t => i64 t.val.num) (g1 aTerm fun t => vS (termText t))
abbrev showS : Fs := .pureIf (g1p aLit fun l => literalB l = true ∧ litI l) (g1 aLit fun l => vS (litText l))
abbrev pprintS : Fs := .pureIf (g1p aClause fun c => clauseI c ∧ szC c) (g1 aClause fun c => .tup [vS (printB c).1, vI (printB c).2])
abbrev pprintLitS : Fs := .pureIf (g1p aLit fun l => litI l ∧ szL l) (g1 aLit fun l => .tup [vS (printLitB l).1, vI (printLitB l).2])
theorem joinB_cons (x : ByteArray) (r : List ByteArray) (sep : ByteArray) : (joinB (x :: r) sep).data.toList = x.data.toList ++ Go.Lib.joinTail sep.data.toList (r.map (·.data.toList)) := by
 unfold joinB joinL
 rw [List.map_cons, Go.Lib.join_cons]
theorem joinB_two (a b sep : ByteArray) : joinB [a, b] sep = a ++ sep ++ b := by
 have h := joinB_cons a [b] sep
 refine ext_data ?_
 rw [h]
 simp [Go.Lib.joinTail, ByteArray.data_append]
theorem args_join : ∀ (r : List Term) (k : Nat) (out : ByteArray), (argsGo (k + 1) out r).data.toList = out.data.toList ++ Go.Lib.joinTail [44, 32] ((r.map termText).map (·.data.toList))
 | [], k, out => by simp [argsGo, Go.Lib.joinTail]
 | t :: r, k, out => by
   rw [argsGo, args_join r (k + 1)]
   simp [Go.Lib.joinTail, ByteArray.data_append]
theorem args_join0 (t : Term) (r : List Term) (out : ByteArray) : argsGo 0 out (t :: r) = out ++ (⟨#[40]⟩ : ByteArray) ++ joinB ((t :: r).map termText) ⟨#[44, 32]⟩ := by
 refine ext_data ?_
 rw [argsGo, args_join r 0]
 simp only [ByteArray.data_append, Array.toList_append, List.map_cons, joinB_cons, List.append_assoc]
theorem size_data (x : ByteArray) : x.data.toList.length = x.size := Array.length_toList
theorem joinL_le (ts : List ByteArray) (sep : ByteArray) (m : Nat) (h : ∀ t ∈ ts, t.size ≤ m) : (joinL ts sep).length ≤ ts.length * (m + sep.size) := by
 have key : ∀ r : List ByteArray, (∀ t ∈ r, t.size ≤ m) → (Go.Lib.joinTail sep.data.toList (r.map (·.data.toList))).length ≤ r.length * (m + sep.size) := by
  intro r
  induction r with
  | nil => intro _; simp [Go.Lib.joinTail]
  | cons x r ih =>
    intro hr
    have := ih fun t ht => hr t (List.mem_cons_of_mem _ ht)
    have hx := hr x (List.mem_cons_self ..)
    simp only [Go.Lib.joinTail, List.map_cons, List.flatten_cons, List.length_append, List.length_cons] at this ⊢
    have e1 := size_data x
    have e2 := size_data sep
    rw [e1, e2, Nat.succ_mul]
    omega
 cases ts with
 | nil => simp [joinL, Go.Lib.join_nil]
 | cons x r =>
   unfold joinL
   rw [List.map_cons, Go.Lib.join_cons, List.length_append]
   have := key r fun t ht => h t (List.mem_cons_of_mem _ ht)
   have hx := h x (List.mem_cons_self ..)
   have e1 := size_data x
   rw [e1, List.length_cons, Nat.succ_mul]
   omega
theorem joinB_size (ts : List ByteArray) (sep : ByteArray) : (joinB ts sep).size = (joinL ts sep).length := by rw [← size_data]; rfl
set_option maxRecDepth 10000 in
set_option maxHeartbeats 4000000 in
theorem ptext_ok : FsOk Tryz.prog 109 ptextS := by
 refine of_Y1 (E := EqT.no _) (F := (Ft.no.put 122 goodS).put 127 digitsS) Val.av (fun _ _ => aVal_le) Tryz.func109 rfl (by kernel_rfl) [.tmp 2, .tmp 3] rfl Tryz.ntmps109 (by decide) (((FtOk.no _).put good_ok).put digits_ok) ?_
 intro v h n hp hok
 cases hg : goodV v with
 | false =>
   have hT : textB v = ⟨#[]⟩ := by unfold textB; rw [hg]; rfl
   repeat' (first | (with_reducible first | refine XG_split (fun hq => ?_) (fun hq => ?_) | refine MX1.of 4000 (by simp) ?_ | refine MX2.of 4000 (by simp) ?_ | refine And.intro ?_ ?_) | ((with_reducible first | refine Or.inl (And.intro (And.intro mixedP ?_) ?_) | refine Or.inl (And.intro mixedP ?_)); kernel_rfl) | simp only [go_sem,Nat.reduceEqDiff,Nat.reduceAdd,Nat.reduceMul,Nat.reduceLeDiff,Int.reduceBEq,Val.av,empty_str,hg,hT])
   all_goals first | exact hp | skip
   all_goals first | omega | (unfold maxLen; omega) | (right; omega) | (left; simp; done) | (simp only [wk3,wkL2,wk2,wkL,wk1_d,wk1_own,wk1_nil,and_self]; done) | (intro i hi; simp only [upd]; (repeat' split); all_goals first | rfl | omega) | skip
 | true =>
   cases hs : v.sym.size == 0 with
   | false =>
     have hT : textB v = v.sym := by unfold textB; rw [hg, if_pos rfl, if_pos (by have := beq_eq_false_iff_ne.1 hs; omega)]
     repeat' (first | (with_reducible first | refine XG_split (fun hq => ?_) (fun hq => ?_) | refine MX1.of 4000 (by simp) ?_ | refine MX2.of 4000 (by simp) ?_ | refine And.intro ?_ ?_) | ((with_reducible first | refine Or.inl (And.intro (And.intro mixedP ?_) ?_) | refine Or.inl (And.intro mixedP ?_)); kernel_rfl) | simp only [go_sem,Nat.reduceEqDiff,Nat.reduceAdd,Nat.reduceMul,Nat.reduceLeDiff,Int.reduceBEq,Val.av,empty_str,hg,hs,hT])
     all_goals first | exact hp | skip
     all_goals first | omega | (unfold maxLen; omega) | (right; omega) | (left; simp; done) | (simp only [wk3,wkL2,wk2,wkL,wk1_d,wk1_own,wk1_nil,and_self]; done) | (intro i hi; simp only [upd]; (repeat' split); all_goals first | rfl | omega) | skip
   | true =>
     have hT : textB v = numText v.num := by unfold textB; rw [hg, if_pos rfl, if_neg (by have := beq_iff_eq.1 hs; omega)]
     repeat' (first | (with_reducible first | refine XG_split (fun hq => ?_) (fun hq => ?_) | refine MX1.of 4000 (by simp) ?_ | refine MX2.of 4000 (by simp) ?_ | refine And.intro ?_ ?_) | ((with_reducible first | refine Or.inl (And.intro (And.intro mixedP ?_) ?_) | refine Or.inl (And.intro mixedP ?_)); kernel_rfl) | simp only [go_sem,Nat.reduceEqDiff,Nat.reduceAdd,Nat.reduceMul,Nat.reduceLeDiff,Int.reduceBEq,Val.av,empty_str,hg,hs,hT])
     all_goals first | exact hp | skip
     all_goals first | omega | (unfold maxLen; omega) | (right; omega) | (left; simp; done) | (simp only [wk3,wkL2,wk2,wkL,wk1_d,wk1_own,wk1_nil,and_self]; done) | (intro i hi; simp only [upd]; (repeat' split); all_goals first | rfl | omega) | skip
set_option maxRecDepth 10000 in
set_option maxHeartbeats 4000000 in
theorem showTerm_ok : FsOk Tryz.prog 86 showTermS := by
 refine of_Y1 (E := EqT.no _) (F := Ft.no.put 109 ptextS) Term.av (fun _ _ => aTerm_le) Tryz.func86 rfl (by kernel_rfl) [.tmp 2] rfl Tryz.ntmps86 (by decide) ((FtOk.no _).put ptext_ok) ?_
 intro t h n hp hok
 cases hs : t.var.size == 0 with
 | false =>
   have hT : termText t = t.var := by unfold termText; rw [if_pos (by have := beq_eq_false_iff_ne.1 hs; omega)]
   repeat' (first | (with_reducible first | refine XG_split (fun hq => ?_) (fun hq => ?_) | refine MX1.of 4000 (by simp) ?_ | refine MX2.of 4000 (by simp) ?_ | refine And.intro ?_ ?_) | ((with_reducible first | refine Or.inl (And.intro (And.intro mixedP ?_) ?_) | refine Or.inl (And.intro mixedP ?_)); kernel_rfl) | simp only [go_sem,Nat.reduceEqDiff,Nat.reduceAdd,Nat.reduceMul,Nat.reduceLeDiff,Int.reduceBEq,Term.av,Val.av,empty_str,hs,hT])
   all_goals first | exact hp | skip
   all_goals first | omega | (unfold maxLen; omega) | (right; omega) | (left; simp; done) | (simp only [wk3,wkL2,wk2,wkL,wk1_d,wk1_own,wk1_nil,and_self]; done) | (intro i hi; simp only [upd]; (repeat' split); all_goals first | rfl | omega) | skip
 | true =>
   have hT : termText t = textB t.val := by unfold termText; rw [if_neg (by have := beq_iff_eq.1 hs; omega)]
   repeat' (first | (with_reducible first | refine XG_split (fun hq => ?_) (fun hq => ?_) | refine MX1.of 4000 (by simp) ?_ | refine MX2.of 4000 (by simp) ?_ | refine And.intro ?_ ?_) | ((with_reducible first | refine Or.inl (And.intro (And.intro mixedP ?_) ?_) | refine Or.inl (And.intro mixedP ?_)); kernel_rfl) | simp only [go_sem,Nat.reduceEqDiff,Nat.reduceAdd,Nat.reduceMul,Nat.reduceLeDiff,Int.reduceBEq,Term.av,Val.av,empty_str,hs,hT])
   all_goals first | exact hp | skip
   all_goals first | omega | (unfold maxLen; omega) | (right; omega) | (left; simp; done) | (simp only [wk3,wkL2,wk2,wkL,wk1_d,wk1_own,wk1_nil,and_self]; done) | (intro i hi; simp only [upd]; (repeat' split); all_goals first | rfl | omega) | skip
def showSt (l : Lit) (h : AH) (n k : Nat) : St := match k with
 | 0 => ⟨fr [(1, .p n 0), (3, .d (.v (.slice none 0 0))), (8, .d (.sl 3 (l.args.map Term.cells))), (9, vI l.args.length), (10, vI 0)] (List.replicate 57 .any), upd h n (.box l.bx), n, n + 1⟩
 | k + 1 => ⟨fr [(1, .p n 0), (3, .own (n + 1 + 1) 1 (((l.args.take (k + 1)).map termText).map strRow)), (8, .d (.sl 3 (l.args.map Term.cells))), (9, vI l.args.length), (10, vI (k + 1 : Nat))] (List.replicate 57 .any),
     upd (upd (upd h n (.box l.bx)) (n + 1) (.box ((l.args.headD Term.z).cells.map AV.d))) (n + 1 + 1) (.tok (k + 1) 1), n, n + 1 + 1 + 1⟩
set_option maxRecDepth 10000 in
set_option maxHeartbeats 4000000 in
theorem show_ok : FsOk Tryz.prog 59 showS := by
 refine of_Y1 (E := eqT) (F := (Ft.no.put 86 showTermS).put 87 joinS) Lit.av (fun _ _ => aLit_le) Tryz.func59 rfl (by kernel_rfl) [.tmp 2] rfl Tryz.ntmps59 (by decide) (((FtOk.no _).put showTerm_ok).put strJoin_ok) ?_
 intro l h n hp hok
 obtain ⟨hg, hw, hi⟩ := hp
 have hlen : l.args.length ≤ 4 := by
  unfold literalB at hg
  split at hg
  · unfold saidB at hg
    simp only [Bool.and_eq_true, decide_eq_true_eq] at hg
    exact hg.1.2
  · simp only [Bool.and_eq_true, beq_iff_eq] at hg
    omega
 have hts : termsB l.args = true := by
  unfold literalB at hg
  split at hg
  · unfold saidB at hg
    simp only [Bool.and_eq_true] at hg
    exact hg.2
  · simp only [Bool.and_eq_true] at hg
    exact hg.2
 have hsz : ∀ t ∈ l.args, (termText t).size ≤ 20 := fun t ht => termText_size (hi t ht) (by unfold termsB at hts; rw [List.all_eq_true] at hts; exact hts t ht)
 have hszm : ∀ s ∈ l.args.map termText, s.size ≤ 20 := fun s hs => by
  obtain ⟨t, ht, rfl⟩ := List.mem_map.1 hs
  exact hsz t ht
 have hjl : ∀ sep : ByteArray, sep.size ≤ 4 → (joinL (l.args.map termText) sep).length ≤ 96 := fun sep hsep => by
  have := joinL_le (l.args.map termText) sep 20 hszm
  rw [List.length_map] at this
  have h2 : l.args.length * (20 + sep.size) ≤ 4 * 24 := Nat.mul_le_mul hlen (by omega)
  omega
 have hok' : HOk (n + 1) (upd h n (.box l.bx)) := (hok.mono (Nat.le_succ n)).upd_box (Nat.lt_succ_self n) (by simp only [go_sem, Lit.bx])
 repeat' (first | (with_reducible first | refine XG_split (fun hq => ?_) (fun hq => ?_) | refine MX1.of 4000 (by simp) ?_ | refine MX2.of 4000 (by simp) ?_ | refine And.intro ?_ ?_) | ((with_reducible first | refine Or.inl (And.intro (And.intro mixedP ?_) ?_) | refine Or.inl (And.intro mixedP ?_)); kernel_rfl) | simp only [go_sem,Nat.reduceEqDiff,Nat.reduceAdd,Nat.reduceMul,Nat.reduceLeDiff,Int.reduceBEq,Lit.av,Lit.bx,showSt,Term.av])
 all_goals first | omega | (unfold maxLen; omega) | (right; omega) | (left; simp; done) | (simp only [wk3,wkL2,wk2,wkL,wk1_d,wk1_own,wk1_nil,and_self]; done) | (intro i hi; simp only [upd]; (repeat' split); all_goals first | rfl | omega) | skip
 refine AW.loopJ (E := eqT) (S := showSt l h n) (I := fun k => k ≤ l.args.length) (μ := fun k => l.args.length - k) 0 (Nat.zero_le _) ?_ 4000 (fun k => by cases k <;> simp only [showSt, fr_len, List.length_replicate] <;> decide) ?_
 · exact Wk.same (by simp only [go_sem, showSt, Lit.bx]) hok' (Nat.le_succ _) (by simp only [go_sem, showSt]; omega)
 · intro k hk
   rcases Nat.lt_or_ge k l.args.length with hkl | hkl
   · have hti := hi _ (List.getElem_mem hkl)
     cases k with
     | zero =>
       have hhd : l.args.headD Term.z = l.args[0] := by
        rw [List.headD_eq_head?_getD, List.head?_eq_getElem?, List.getElem?_eq_getElem hkl]
        rfl
       have hrow : ((l.args.take 1).map termText).map strRow = [strRow (termText l.args[0])] := by
        rw [List.take_succ_eq_append_getElem hkl]
        simp
       repeat' (first | (with_reducible first | refine XG_split (fun hq => ?_) (fun hq => ?_) | refine MX1.of 4000 (by simp) ?_ | refine MX2.of 4000 (by simp) ?_ | refine And.intro ?_ ?_) | ((with_reducible first | refine Or.inl (And.intro (And.intro mixedP ?_) ?_) | refine Or.inl (And.intro mixedP ?_)); kernel_rfl) | simp only [go_sem,Nat.reduceEqDiff,Nat.reduceAdd,Nat.reduceMul,Nat.reduceLeDiff,Int.reduceBEq,Lit.av,Lit.bx,showSt,Term.av,decide_eq_true hkl,List.getElem?_eq_getElem hkl,toNat1])
       all_goals first | exact hti | skip
       all_goals first | omega | (unfold maxLen; omega) | (right; omega) | (left; simp; done) | (simp only [wk3,wkL2,wk2,wkL,wk1_d,wk1_own,wk1_nil,and_self]; done) | (intro i hi; simp only [upd]; (repeat' split); all_goals first | rfl | omega) | skip
       refine ⟨1, hkl, Wk.of (by simp only [go_sem, hrow, strRow]) ?_ ?_ (by omega) (by omega) (by simp only [go_sem]; omega), by omega⟩
       · intro i hi
         simp only [upd, hhd, Term.ds]
         (repeat' split)
         all_goals first | rfl | omega
       · exact ((hok'.mono (by omega)).upd_box (by omega) (by simp only [go_sem])).upd_tok (by omega)
     | succ k =>
       have hdec : decide (((k + 1 : Nat) : Int) < (l.args.length : Int)) = true := decide_eq_true (by omega)
       have hlt : (l.args.take (k + 1)).length = k + 1 := by rw [List.length_take]; omega
       have hrow : ((l.args.take (k + 1 + 1)).map termText).map strRow = ((l.args.take (k + 1)).map termText).map strRow ++ [strRow (termText l.args[k + 1])] := by
        rw [List.take_succ_eq_append_getElem hkl, List.map_append, List.map_append]
        rfl
       repeat' (first | (with_reducible first | refine XG_split (fun hq => ?_) (fun hq => ?_) | refine MX1.of 4000 (by simp) ?_ | refine MX2.of 4000 (by simp) ?_ | refine And.intro ?_ ?_) | ((with_reducible first | refine Or.inl (And.intro (And.intro mixedP ?_) ?_) | refine Or.inl (And.intro mixedP ?_)); kernel_rfl) | simp only [go_sem,Nat.reduceEqDiff,Nat.reduceAdd,Nat.reduceMul,Nat.reduceLeDiff,Int.reduceBEq,Lit.av,Lit.bx,showSt,Term.av,dnat1 hkl,toNat1,List.getElem?_eq_getElem hkl,hlt])
       all_goals first | exact hti | skip
       all_goals first | omega | (unfold maxLen; omega) | (right; omega) | (left; simp; done) | (simp only [wk3,wkL2,wk2,wkL,wk1_d,wk1_own,wk1_nil,and_self]; done) | (intro i hi; simp only [upd]; (repeat' split); all_goals first | rfl | omega) | skip
       refine ⟨k + 1 + 1, hkl, Wk.of (by simp only [go_sem, hrow, strRow]) ?_ ?_ (by omega) (by omega) (by simp only [go_sem]; omega), by omega⟩
       · intro i hi
         simp only [upd]
         (repeat' split)
         all_goals first | rfl | omega
       · exact ((hok'.mono (by omega)).upd_box (by omega) (by simp only [go_sem])).upd_tok (by omega)
   · obtain rfl : k = l.args.length := by omega
     have htk : l.args.take l.args.length = l.args := List.take_of_length_le (Nat.le_refl _)
     have s1 : #[(32 : UInt8), 60, 32].size = 3 := rfl
     have s2 : #[(32 : UInt8), 33, 61, 32].size = 4 := rfl
     have s3 : #[(44 : UInt8), 32].size = 2 := rfl
     have s4 : #[(40 : UInt8)].size = 1 := rfl
     have s5 : #[(41 : UInt8)].size = 1 := rfl
     have s6 : #[(32 : UInt8), 115, 97, 121, 115, 32].size = 6 := rfl
     have s7 : #[(110 : UInt8), 111, 116, 32].size = 4 := rfl
     have j1 := hjl ⟨#[32, 60, 32]⟩ (by decide)
     have j2 := hjl ⟨#[32, 33, 61, 32]⟩ (by decide)
     have j3 := hjl ⟨#[44, 32]⟩ (by decide)
     have j3' := joinB_size (l.args.map termText) ⟨#[44, 32]⟩
     have hown : (l.who.var.size == 0 && (l.who.val.sym.size == 0 && l.who.val.num == 0)) = ownT l.who := by unfold ownT; rw [Bool.and_assoc]
     by_cases k3 : l.kind = 3
     · have c3 : (l.kind == 3) = true := by simp [k3]
       obtain ⟨a, b, hab⟩ : ∃ a b, l.args = [a, b] := by
        have : l.args.length = 2 := by
         simp [literalB, k3] at hg
         exact hg.1.2
        match hq : l.args, this with
        | [a, b], _ => exact ⟨a, b, rfl⟩
       have hT : litText l = joinB (l.args.map termText) ⟨#[32, 60, 32]⟩ := by
        unfold litText
        rw [c3, if_pos rfl, hab]
        simp only [List.map_cons, List.map_nil, joinB_two]
        rfl
       have hl2 : l.args.length = 1 + 1 := by rw [hab]; rfl
       rw [hl2] at htk ⊢
       repeat' (first | (with_reducible first | refine XG_split (fun hq => ?_) (fun hq => ?_) | refine MX1.of 4000 (by simp) ?_ | refine MX2.of 4000 (by simp) ?_ | refine And.intro ?_ ?_) | ((with_reducible first | refine Or.inl (And.intro (And.intro mixedP ?_) ?_) | refine Or.inl (And.intro mixedP ?_)); kernel_rfl) | simp only [go_sem,Nat.reduceEqDiff,Nat.reduceAdd,Nat.reduceMul,Nat.reduceLeDiff,Int.reduceBEq,Lit.av,Lit.bx,showSt,Term.av,Int.lt_irrefl,decide_false,dStrs,List.length_map,htk,hl2,c3,hT])
       all_goals first | exact ⟨by rw [List.length_map]; omega, by omega⟩ | skip
       all_goals first | omega | (unfold maxLen; omega) | (right; omega) | (left; simp; done) | (simp only [wk3,wkL2,wk2,wkL,wk1_d,wk1_own,wk1_nil,and_self]; done) | (intro i hi; simp only [upd]; (repeat' split); all_goals first | rfl | omega) | skip
     by_cases k4 : l.kind = 4
     · have c3 : (l.kind == 3) = false := by simp [k3]
       have c4 : (l.kind == 4) = true := by simp [k4]
       obtain ⟨a, b, hab⟩ : ∃ a b, l.args = [a, b] := by
        have : l.args.length = 2 := by
         simp [literalB, k4] at hg
         exact hg.1.2
        match hq : l.args, this with
        | [a, b], _ => exact ⟨a, b, rfl⟩
       have hT : litText l = joinB (l.args.map termText) ⟨#[32, 33, 61, 32]⟩ := by
        unfold litText
        rw [c3, c4, if_neg (by simp), if_pos rfl, hab]
        simp only [List.map_cons, List.map_nil, joinB_two]
        rfl
       have hl2 : l.args.length = 1 + 1 := by rw [hab]; rfl
       rw [hl2] at htk ⊢
       repeat' (first | (with_reducible first | refine XG_split (fun hq => ?_) (fun hq => ?_) | refine MX1.of 4000 (by simp) ?_ | refine MX2.of 4000 (by simp) ?_ | refine And.intro ?_ ?_) | ((with_reducible first | refine Or.inl (And.intro (And.intro mixedP ?_) ?_) | refine Or.inl (And.intro mixedP ?_)); kernel_rfl) | simp only [go_sem,Nat.reduceEqDiff,Nat.reduceAdd,Nat.reduceMul,Nat.reduceLeDiff,Int.reduceBEq,Lit.av,Lit.bx,showSt,Term.av,Int.lt_irrefl,decide_false,dStrs,List.length_map,htk,hl2,c3,c4,hT])
       all_goals first | exact ⟨by rw [List.length_map]; omega, by omega⟩ | skip
       all_goals first | omega | (unfold maxLen; omega) | (right; omega) | (left; simp; done) | (simp only [wk3,wkL2,wk2,wkL,wk1_d,wk1_own,wk1_nil,and_self]; done) | (intro i hi; simp only [upd]; (repeat' split); all_goals first | rfl | omega) | skip
     have c3 : (l.kind == 3) = false := by simp [k3]
     have c4 : (l.kind == 4) = false := by simp [k4]
     have hsd : saidB l = true := by
      unfold literalB at hg
      rw [c3, c4] at hg
      split at hg
      · exact hg
      · simp at hg
     have hpred : l.pred.size ≤ 16 := by
      unfold saidB at hsd
      simp only [Bool.and_eq_true] at hsd
      exact nameB_size hsd.1.1.2
     have hwho : ownT l.who = false → (termText l.who).size ≤ 20 := fun e => by
      unfold saidB at hsd
      simp only [Bool.and_eq_true, e, Bool.false_or] at hsd
      exact termText_size hw hsd.1.1.1.1
     have hT : litText l = (if l.kind == 2 then (⟨#[110, 111, 116, 32]⟩ : ByteArray) else ⟨#[]⟩) ++ ((if ownT l.who then (⟨#[]⟩ : ByteArray) else termText l.who ++ ⟨#[32, 115, 97, 121, 115, 32]⟩) ++ (l.pred ++ (if 0 < l.args.length then (⟨#[40]⟩ : ByteArray) ++ joinB (l.args.map termText) ⟨#[44, 32]⟩ ++ ⟨#[41]⟩ else ⟨#[]⟩))) := by
      unfold litText
      rw [c3, c4, if_neg (by simp), if_neg (by simp)]
      have hah : litAhead l = (if l.kind == 2 then (⟨#[110, 111, 116, 32]⟩ : ByteArray) else ⟨#[]⟩) ++ (if ownT l.who then (⟨#[]⟩ : ByteArray) else termText l.who ++ ⟨#[32, 115, 97, 121, 115, 32]⟩) ++ l.pred := by
       unfold litAhead
       cases ownT l.who <;> (refine ext_data ?_; simp [ByteArray.data_append])
      unfold litBehind
      cases hq : l.args with
      | nil =>
        rw [hah]
        refine ext_data ?_
        simp [argsGo, ByteArray.data_append]
      | cons t r =>
        rw [args_join0, hah]
        refine ext_data ?_
        simp [ByteArray.data_append]
     cases ho : ownT l.who with
     | true =>
       rw [ho] at hown hT
       simp only [if_true] at hT
       cases k2 : (l.kind == 2) with
       | true =>
         rw [k2] at hT
         rcases Nat.eq_zero_or_pos l.args.length with hz | hz
         · have hnil : l.args = [] := List.eq_nil_of_length_eq_zero hz
           rw [hz] at hT
           simp only [Nat.lt_irrefl, if_false, if_true, Bool.false_eq_true] at hT
           rw [hz]
           repeat' (first | (with_reducible first | refine XG_split (fun hq => ?_) (fun hq => ?_) | refine MX1.of 4000 (by simp) ?_ | refine MX2.of 4000 (by simp) ?_ | refine And.intro ?_ ?_) | ((with_reducible first | refine Or.inl (And.intro (And.intro mixedP ?_) ?_) | refine Or.inl (And.intro mixedP ?_)); kernel_rfl) | simp only [go_sem,Nat.reduceEqDiff,Nat.reduceAdd,Nat.reduceMul,Nat.reduceLeDiff,Int.reduceBEq,Lit.av,Lit.bx,showSt,Term.av,Int.lt_irrefl,decide_false,hz,hnil,empty_str,cvals,cval,c3,c4,k2,hown,List.map_nil])
           all_goals first | exact hw | skip
           all_goals try simp only [ByteArray.size_append, s1, s2, s3, s4, s5, s6, s7, j3', Int.natCast_add]
           all_goals first | omega | (unfold maxLen; omega) | (right; omega) | (left; simp; done) | (simp only [wk3,wkL2,wk2,wkL,wk1_d,wk1_own,wk1_nil,and_self]; done) | (intro i hi; simp only [upd]; (repeat' split); all_goals first | rfl | omega) | skip
           all_goals first | (refine wk_v (congrArg Value.string ?_); rw [hT]; done) | (refine wk_v (congrArg Value.string ?_); rw [hT]; refine ext_data ?_; simp [ByteArray.data_append]; done)
         · obtain ⟨m, hm⟩ : ∃ m, l.args.length = m + 1 := ⟨l.args.length - 1, by omega⟩
           rw [if_pos hz] at hT
           simp only [if_true, if_false, Bool.false_eq_true] at hT
           rw [hm] at htk ⊢
           have hd0 : decide ((0 : Int) < (m : Int) + 1) = true := decide_eq_true (by omega)
           repeat' (first | (with_reducible first | refine XG_split (fun hq => ?_) (fun hq => ?_) | refine MX1.of 4000 (by simp) ?_ | refine MX2.of 4000 (by simp) ?_ | refine And.intro ?_ ?_) | ((with_reducible first | refine Or.inl (And.intro (And.intro mixedP ?_) ?_) | refine Or.inl (And.intro mixedP ?_)); kernel_rfl) | simp only [go_sem,Nat.reduceEqDiff,Nat.reduceAdd,Nat.reduceMul,Nat.reduceLeDiff,Int.reduceBEq,Lit.av,Lit.bx,showSt,Term.av,Int.lt_irrefl,decide_false,dStrs,List.length_map,htk,hm,hd0,empty_str,cvals,cval,c3,c4,k2,hown])
           all_goals first | exact hw | exact ⟨by rw [List.length_map]; omega, by omega⟩ | skip
           all_goals try simp only [ByteArray.size_append, s1, s2, s3, s4, s5, s6, s7, j3', Int.natCast_add]
           all_goals first | omega | (unfold maxLen; omega) | (right; omega) | (left; simp; done) | (simp only [wk3,wkL2,wk2,wkL,wk1_d,wk1_own,wk1_nil,and_self]; done) | (intro i hi; simp only [upd]; (repeat' split); all_goals first | rfl | omega) | skip
           all_goals first | (refine wk_v (congrArg Value.string ?_); rw [hT]; done) | (refine wk_v (congrArg Value.string ?_); rw [hT]; refine ext_data ?_; simp [ByteArray.data_append]; done)
       | false =>
         rw [k2] at hT
         rcases Nat.eq_zero_or_pos l.args.length with hz | hz
         · have hnil : l.args = [] := List.eq_nil_of_length_eq_zero hz
           rw [hz] at hT
           simp only [Nat.lt_irrefl, if_false, if_true, Bool.false_eq_true] at hT
           rw [hz]
           repeat' (first | (with_reducible first | refine XG_split (fun hq => ?_) (fun hq => ?_) | refine MX1.of 4000 (by simp) ?_ | refine MX2.of 4000 (by simp) ?_ | refine And.intro ?_ ?_) | ((with_reducible first | refine Or.inl (And.intro (And.intro mixedP ?_) ?_) | refine Or.inl (And.intro mixedP ?_)); kernel_rfl) | simp only [go_sem,Nat.reduceEqDiff,Nat.reduceAdd,Nat.reduceMul,Nat.reduceLeDiff,Int.reduceBEq,Lit.av,Lit.bx,showSt,Term.av,Int.lt_irrefl,decide_false,hz,hnil,empty_str,cvals,cval,c3,c4,k2,hown,List.map_nil])
           all_goals first | exact hw | skip
           all_goals try simp only [ByteArray.size_append, s1, s2, s3, s4, s5, s6, s7, j3', Int.natCast_add]
           all_goals first | omega | (unfold maxLen; omega) | (right; omega) | (left; simp; done) | (simp only [wk3,wkL2,wk2,wkL,wk1_d,wk1_own,wk1_nil,and_self]; done) | (intro i hi; simp only [upd]; (repeat' split); all_goals first | rfl | omega) | skip
           all_goals first | (refine wk_v (congrArg Value.string ?_); rw [hT]; done) | (refine wk_v (congrArg Value.string ?_); rw [hT]; refine ext_data ?_; simp [ByteArray.data_append]; done)
         · obtain ⟨m, hm⟩ : ∃ m, l.args.length = m + 1 := ⟨l.args.length - 1, by omega⟩
           rw [if_pos hz] at hT
           simp only [if_true, if_false, Bool.false_eq_true] at hT
           rw [hm] at htk ⊢
           have hd0 : decide ((0 : Int) < (m : Int) + 1) = true := decide_eq_true (by omega)
           repeat' (first | (with_reducible first | refine XG_split (fun hq => ?_) (fun hq => ?_) | refine MX1.of 4000 (by simp) ?_ | refine MX2.of 4000 (by simp) ?_ | refine And.intro ?_ ?_) | ((with_reducible first | refine Or.inl (And.intro (And.intro mixedP ?_) ?_) | refine Or.inl (And.intro mixedP ?_)); kernel_rfl) | simp only [go_sem,Nat.reduceEqDiff,Nat.reduceAdd,Nat.reduceMul,Nat.reduceLeDiff,Int.reduceBEq,Lit.av,Lit.bx,showSt,Term.av,Int.lt_irrefl,decide_false,dStrs,List.length_map,htk,hm,hd0,empty_str,cvals,cval,c3,c4,k2,hown])
           all_goals first | exact hw | exact ⟨by rw [List.length_map]; omega, by omega⟩ | skip
           all_goals try simp only [ByteArray.size_append, s1, s2, s3, s4, s5, s6, s7, j3', Int.natCast_add]
           all_goals first | omega | (unfold maxLen; omega) | (right; omega) | (left; simp; done) | (simp only [wk3,wkL2,wk2,wkL,wk1_d,wk1_own,wk1_nil,and_self]; done) | (intro i hi; simp only [upd]; (repeat' split); all_goals first | rfl | omega) | skip
           all_goals first | (refine wk_v (congrArg Value.string ?_); rw [hT]; done) | (refine wk_v (congrArg Value.string ?_); rw [hT]; refine ext_data ?_; simp [ByteArray.data_append]; done)
     | false =>
       rw [ho] at hown hT
       have hw20 := hwho ho
       simp only [Bool.false_eq_true, if_false] at hT
       cases k2 : (l.kind == 2) with
       | true =>
         rw [k2] at hT
         rcases Nat.eq_zero_or_pos l.args.length with hz | hz
         · have hnil : l.args = [] := List.eq_nil_of_length_eq_zero hz
           rw [hz] at hT
           simp only [Nat.lt_irrefl, if_false, if_true, Bool.false_eq_true] at hT
           rw [hz]
           repeat' (first | (with_reducible first | refine XG_split (fun hq => ?_) (fun hq => ?_) | refine MX1.of 4000 (by simp) ?_ | refine MX2.of 4000 (by simp) ?_ | refine And.intro ?_ ?_) | ((with_reducible first | refine Or.inl (And.intro (And.intro mixedP ?_) ?_) | refine Or.inl (And.intro mixedP ?_)); kernel_rfl) | simp only [go_sem,Nat.reduceEqDiff,Nat.reduceAdd,Nat.reduceMul,Nat.reduceLeDiff,Int.reduceBEq,Lit.av,Lit.bx,showSt,Term.av,Int.lt_irrefl,decide_false,hz,hnil,empty_str,cvals,cval,c3,c4,k2,hown,List.map_nil])
           all_goals first | exact hw | skip
           all_goals try simp only [ByteArray.size_append, s1, s2, s3, s4, s5, s6, s7, j3', Int.natCast_add]
           all_goals first | omega | (unfold maxLen; omega) | (right; omega) | (left; simp; done) | (simp only [wk3,wkL2,wk2,wkL,wk1_d,wk1_own,wk1_nil,and_self]; done) | (intro i hi; simp only [upd]; (repeat' split); all_goals first | rfl | omega) | skip
           all_goals first | (refine wk_v (congrArg Value.string ?_); rw [hT]; done) | (refine wk_v (congrArg Value.string ?_); rw [hT]; refine ext_data ?_; simp [ByteArray.data_append]; done)
         · obtain ⟨m, hm⟩ : ∃ m, l.args.length = m + 1 := ⟨l.args.length - 1, by omega⟩
           rw [if_pos hz] at hT
           simp only [if_true, if_false, Bool.false_eq_true] at hT
           rw [hm] at htk ⊢
           have hd0 : decide ((0 : Int) < (m : Int) + 1) = true := decide_eq_true (by omega)
           repeat' (first | (with_reducible first | refine XG_split (fun hq => ?_) (fun hq => ?_) | refine MX1.of 4000 (by simp) ?_ | refine MX2.of 4000 (by simp) ?_ | refine And.intro ?_ ?_) | ((with_reducible first | refine Or.inl (And.intro (And.intro mixedP ?_) ?_) | refine Or.inl (And.intro mixedP ?_)); kernel_rfl) | simp only [go_sem,Nat.reduceEqDiff,Nat.reduceAdd,Nat.reduceMul,Nat.reduceLeDiff,Int.reduceBEq,Lit.av,Lit.bx,showSt,Term.av,Int.lt_irrefl,decide_false,dStrs,List.length_map,htk,hm,hd0,empty_str,cvals,cval,c3,c4,k2,hown])
           all_goals first | exact hw | exact ⟨by rw [List.length_map]; omega, by omega⟩ | skip
           all_goals try simp only [ByteArray.size_append, s1, s2, s3, s4, s5, s6, s7, j3', Int.natCast_add]
           all_goals first | omega | (unfold maxLen; omega) | (right; omega) | (left; simp; done) | (simp only [wk3,wkL2,wk2,wkL,wk1_d,wk1_own,wk1_nil,and_self]; done) | (intro i hi; simp only [upd]; (repeat' split); all_goals first | rfl | omega) | skip
           all_goals first | (refine wk_v (congrArg Value.string ?_); rw [hT]; done) | (refine wk_v (congrArg Value.string ?_); rw [hT]; refine ext_data ?_; simp [ByteArray.data_append]; done)
       | false =>
         rw [k2] at hT
         rcases Nat.eq_zero_or_pos l.args.length with hz | hz
         · have hnil : l.args = [] := List.eq_nil_of_length_eq_zero hz
           rw [hz] at hT
           simp only [Nat.lt_irrefl, if_false, if_true, Bool.false_eq_true] at hT
           rw [hz]
           repeat' (first | (with_reducible first | refine XG_split (fun hq => ?_) (fun hq => ?_) | refine MX1.of 4000 (by simp) ?_ | refine MX2.of 4000 (by simp) ?_ | refine And.intro ?_ ?_) | ((with_reducible first | refine Or.inl (And.intro (And.intro mixedP ?_) ?_) | refine Or.inl (And.intro mixedP ?_)); kernel_rfl) | simp only [go_sem,Nat.reduceEqDiff,Nat.reduceAdd,Nat.reduceMul,Nat.reduceLeDiff,Int.reduceBEq,Lit.av,Lit.bx,showSt,Term.av,Int.lt_irrefl,decide_false,hz,hnil,empty_str,cvals,cval,c3,c4,k2,hown,List.map_nil])
           all_goals first | exact hw | skip
           all_goals try simp only [ByteArray.size_append, s1, s2, s3, s4, s5, s6, s7, j3', Int.natCast_add]
           all_goals first | omega | (unfold maxLen; omega) | (right; omega) | (left; simp; done) | (simp only [wk3,wkL2,wk2,wkL,wk1_d,wk1_own,wk1_nil,and_self]; done) | (intro i hi; simp only [upd]; (repeat' split); all_goals first | rfl | omega) | skip
           all_goals first | (refine wk_v (congrArg Value.string ?_); rw [hT]; done) | (refine wk_v (congrArg Value.string ?_); rw [hT]; refine ext_data ?_; simp [ByteArray.data_append]; done)
         · obtain ⟨m, hm⟩ : ∃ m, l.args.length = m + 1 := ⟨l.args.length - 1, by omega⟩
           rw [if_pos hz] at hT
           simp only [if_true, if_false, Bool.false_eq_true] at hT
           rw [hm] at htk ⊢
           have hd0 : decide ((0 : Int) < (m : Int) + 1) = true := decide_eq_true (by omega)
           repeat' (first | (with_reducible first | refine XG_split (fun hq => ?_) (fun hq => ?_) | refine MX1.of 4000 (by simp) ?_ | refine MX2.of 4000 (by simp) ?_ | refine And.intro ?_ ?_) | ((with_reducible first | refine Or.inl (And.intro (And.intro mixedP ?_) ?_) | refine Or.inl (And.intro mixedP ?_)); kernel_rfl) | simp only [go_sem,Nat.reduceEqDiff,Nat.reduceAdd,Nat.reduceMul,Nat.reduceLeDiff,Int.reduceBEq,Lit.av,Lit.bx,showSt,Term.av,Int.lt_irrefl,decide_false,dStrs,List.length_map,htk,hm,hd0,empty_str,cvals,cval,c3,c4,k2,hown])
           all_goals first | exact hw | exact ⟨by rw [List.length_map]; omega, by omega⟩ | skip
           all_goals try simp only [ByteArray.size_append, s1, s2, s3, s4, s5, s6, s7, j3', Int.natCast_add]
           all_goals first | omega | (unfold maxLen; omega) | (right; omega) | (left; simp; done) | (simp only [wk3,wkL2,wk2,wkL,wk1_d,wk1_own,wk1_nil,and_self]; done) | (intro i hi; simp only [upd]; (repeat' split); all_goals first | rfl | omega) | skip
           all_goals first | (refine wk_v (congrArg Value.string ?_); rw [hT]; done) | (refine wk_v (congrArg Value.string ?_); rw [hT]; refine ext_data ?_; simp [ByteArray.data_append]; done)
end Go.Proofs.YtfhpecgknmfnnaaGreatDoor.M
end
section
namespace Go.Proofs.YtfhpecgknmfnnaaGreatDoor.M
open Go.R
set_option maxRecDepth 10000 in
set_option maxHeartbeats 8000000 in
theorem pprintLit_ok : FsOk Tryz.prog 28 pprintLitS := by
 refine of_Y1 (E := EqT.no _) (F := (Ft.no.put 38 pcheckLitS).put 59 showS) Lit.av (fun _ _ => aLit_le) Tryz.func28 rfl (by kernel_rfl) [.tmp 2, .tmp 3] rfl Tryz.ntmps28 (by decide) (((FtOk.no _).put pcheckLit_ok).put show_ok) ?_
 intro l h n hp hok
 obtain ⟨hi, hz⟩ := hp
 cases hck : checkLitB l with
 | false =>
   have hS : printLitB l = (⟨#[]⟩, 1) := by unfold printLitB; rw [hck]; rfl
   repeat' (first | (with_reducible first | refine XG_split (fun hq => ?_) (fun hq => ?_) | refine MX1.of 4000 (by simp) ?_ | refine MX2.of 4000 (by simp) ?_ | refine And.intro ?_ ?_) | ((with_reducible first | refine Or.inl (And.intro (And.intro mixedP ?_) ?_) | refine Or.inl (And.intro mixedP ?_)); kernel_rfl) | simp only [go_sem,Nat.reduceEqDiff,Nat.reduceAdd,Nat.reduceMul,Nat.reduceLeDiff,Int.reduceBEq,Lit.av,hck,hS])
   all_goals first | exact hz | exact hi | skip
   all_goals first | omega | (unfold maxLen; omega) | (right; omega) | (left; simp; done) | (simp only [wk3,wkL2,wk2,wkL,wk1_d,wk1_own,wk1_nil,and_self]; done) | (intro i hi; simp only [upd]; (repeat' split); all_goals first | rfl | omega) | skip
 | true =>
   have hS : printLitB l = (litText l, 0) := by unfold printLitB; rw [hck]; rfl
   have hg := checkLit_literal hck
   repeat' (first | (with_reducible first | refine XG_split (fun hq => ?_) (fun hq => ?_) | refine MX1.of 4000 (by simp) ?_ | refine MX2.of 4000 (by simp) ?_ | refine And.intro ?_ ?_) | ((with_reducible first | refine Or.inl (And.intro (And.intro mixedP ?_) ?_) | refine Or.inl (And.intro mixedP ?_)); kernel_rfl) | simp only [go_sem,Nat.reduceEqDiff,Nat.reduceAdd,Nat.reduceMul,Nat.reduceLeDiff,Int.reduceBEq,Lit.av,hck,hS])
   all_goals first | exact hz | exact hi | exact hg | skip
   all_goals first | omega | (unfold maxLen; omega) | (right; omega) | (left; simp; done) | (simp only [wk3,wkL2,wk2,wkL,wk1_d,wk1_own,wk1_nil,and_self]; done) | (intro i hi; simp only [upd]; (repeat' split); all_goals first | rfl | omega) | skip
set_option maxRecDepth 10000 in
set_option maxHeartbeats 8000000 in
theorem pprint_ok : FsOk Tryz.prog 25 pprintS := by
 refine of_Y1 (E := EqT.no _) (F := (Ft.no.put 37 pcheckS).put 59 showS) Clause.av (fun _ _ => aClause_le) Tryz.func25 rfl (by kernel_rfl) [.tmp 2, .tmp 3] rfl Tryz.ntmps25 (by decide) (((FtOk.no _).put pcheck_ok).put show_ok) ?_
 intro c h n hp hok
 obtain ⟨⟨hp1, hp2⟩, hz⟩ := hp
 cases hck : checkB c with
 | false =>
   have hS : printB c = (⟨#[]⟩, 1) := by unfold printB; rw [hck]; rfl
   repeat' (first | (with_reducible first | refine XG_split (fun hq => ?_) (fun hq => ?_) | refine MX1.of 4000 (by simp) ?_ | refine MX2.of 4000 (by simp) ?_ | refine And.intro ?_ ?_) | ((with_reducible first | refine Or.inl (And.intro (And.intro mixedP ?_) ?_) | refine Or.inl (And.intro mixedP ?_)); kernel_rfl) | simp only [go_sem,Nat.reduceEqDiff,Nat.reduceAdd,Nat.reduceMul,Nat.reduceLeDiff,Int.reduceBEq,Clause.av,hck,hS])
   all_goals first | exact hz | skip
   all_goals first | omega | (unfold maxLen; omega) | (right; omega) | (left; simp; done) | (simp only [wk3,wkL2,wk2,wkL,wk1_d,wk1_own,wk1_nil,and_self]; done) | (intro i hi; simp only [upd]; (repeat' split); all_goals first | rfl | omega) | skip
 | true =>
   have hS : printB c = (clauseText c, 0) := by unfold printB; rw [hck]; rfl
   have hc := hck
   simp only [checkB, Bool.and_eq_true, decide_eq_true_eq] at hc
   obtain ⟨⟨⟨hc1, hc2⟩, hc3⟩, hc4⟩ := hc
   have hgh := checkLit_literal hc1
   have hz0 := litText_size hp1 hgh
   have hok' : HOk (n + 1) (upd h n (.box c.ds)) := (hok.mono (Nat.le_succ n)).upd_box (Nat.lt_succ_self n) (by simp only [go_sem, Clause.ds])
   have f1 : #[(32 : UInt8), 58, 45, 32].size = 4 := rfl
   have f2 : #[(44 : UInt8), 32].size = 2 := rfl
   have f3 : #[(46 : UInt8)].size = 1 := rfl
   have g1 : (⟨#[32, 58, 45, 32]⟩ : ByteArray).size = 4 := rfl
   have g2 : (⟨#[44, 32]⟩ : ByteArray).size = 2 := rfl
   have g3 : (⟨#[46]⟩ : ByteArray).size = 1 := rfl
   repeat' (first | (with_reducible first | refine XG_split (fun hq => ?_) (fun hq => ?_) | refine MX1.of 4000 (by simp) ?_ | refine MX2.of 4000 (by simp) ?_ | refine And.intro ?_ ?_) | ((with_reducible first | refine Or.inl (And.intro (And.intro mixedP ?_) ?_) | refine Or.inl (And.intro mixedP ?_)); kernel_rfl) | simp only [go_sem,Nat.reduceEqDiff,Nat.reduceAdd,Nat.reduceMul,Nat.reduceLeDiff,Int.reduceBEq,Clause.av,Clause.ds,Lit.av,hck])
   all_goals first | exact hz | exact hp1 | exact hgh | skip
   all_goals first | omega | (unfold maxLen; omega) | (right; omega) | (left; simp; done) | (simp only [wk3,wkL2,wk2,wkL,wk1_d,wk1_own,wk1_nil,and_self]; done) | (intro i hi; simp only [upd]; (repeat' split); all_goals first | rfl | omega) | skip
   refine AW.loopJ (E := EqT.no _) (S := fun x : Nat × ByteArray => ⟨fr [(1, .p n 0), (4, vS x.2), (14, .d (.sl 6 (c.body.map Lit.cells))), (15, vI c.body.length), (16, vI x.1)] (List.replicate 35 .any), upd h n (.box c.ds), n, n + 1⟩)
    (I := fun x => x.1 ≤ c.body.length ∧ x.2.size ≤ 200 + 300 * x.1 ∧ bodyGo x.1 x.2 (c.body.drop x.1) = bodyGo 0 (litText c.head) c.body) (μ := fun x => c.body.length - x.1) (0, litText c.head) ⟨Nat.zero_le _, by simp only; omega, rfl⟩ ?_ 4000 (fun _ => by simp only [fr_len, List.length_replicate]; decide) ?_
   · exact Wk.same (by simp only [go_sem, Clause.ds]) hok' (Nat.le_succ n) (by simp only [go_sem]; omega)
   · rintro ⟨k, out⟩ ⟨hk, hsz, hI⟩
     have hk : k ≤ c.body.length := hk
     have hsz : out.size ≤ 200 + 300 * k := hsz
     have hI : bodyGo k out (c.body.drop k) = bodyGo 0 (litText c.head) c.body := hI
     rcases Nat.lt_or_ge k c.body.length with hkl | hkl
     · have hin := List.getElem_mem hkl
       have ht := hp2 _ hin
       have hg : literalB c.body[k] = true := by rw [List.all_eq_true] at hc4; exact hc4 _ hin
       have hzl := litText_size ht hg
       rw [List.drop_eq_getElem_cons hkl] at hI
       cases k with
       | zero =>
         have hI' : bodyGo (0 + 1) (out ++ ((⟨#[32, 58, 45, 32]⟩ : ByteArray) ++ litText c.body[0])) (c.body.drop (0 + 1)) = bodyGo 0 (litText c.head) c.body := by
          rw [← hI, bodyGo, ByteArray.append_assoc]
         have m0 : (if (1 : Int) < 0 then (1 : Int) else 0) = 0 := rfl
         have m1 : (1 : Int) - 0 = 1 := rfl
         repeat' (first | (with_reducible refine Or.inr (AW.treeX (E := EqT.no _) [] [0,2,3,4,7] (.two 1 (.two 5 (.two 6 (.one 8 (.one 9 (.one 10 (.one 11 .fin)))) 8 (.one 6 (.one 9 (.one 10 (.one 11 .fin))))) 8 (.one 5 (.one 6 (.one 9 (.one 10 (.one 11 .fin)))))) 8 (.one 1 (.one 5 (.one 6 (.one 9 (.one 10 (.one 11 .fin))))))) mixedP ?_ ?_ ?_ ?_); decide +kernel; (simp only [List.length_cons,List.length_nil]; decide); (intro j hj; exact absurd hj List.not_mem_nil)) | (with_reducible refine (AW.treeX (E := EqT.no _) [] [0,2,3,4,7] (.two 1 (.two 5 (.two 6 (.one 8 (.one 9 (.one 10 (.one 11 .fin)))) 8 (.one 6 (.one 9 (.one 10 (.one 11 .fin))))) 8 (.one 5 (.one 6 (.one 9 (.one 10 (.one 11 .fin)))))) 8 (.one 1 (.one 5 (.one 6 (.one 9 (.one 10 (.one 11 .fin))))))) mixedP ?_ ?_ ?_ ?_); decide +kernel; (simp only [List.length_cons,List.length_nil]; decide); (intro j hj; exact absurd hj List.not_mem_nil)) | (with_reducible refine MTq.of 4000 (by simp) ?_ ?_) | (with_reducible refine MTq.nil ?_) | (with_reducible refine MT.one 4000 (by simp) ?_) | (with_reducible refine MT.two 4000 (by simp) ?_ ?_) | (with_reducible refine MT.fin ?_) | (with_reducible first | refine XG_split (fun hq => ?_) (fun hq => ?_) | refine MX1.of 4000 (by simp) ?_ | refine MX2.of 4000 (by simp) ?_ | refine And.intro ?_ ?_) | ((with_reducible first | refine Or.inl (And.intro (And.intro mixedP ?_) ?_) | refine Or.inl (And.intro mixedP ?_)); kernel_rfl) | simp only [go_sem,ldK,ldW,blindK,List.mem_singleton,List.not_mem_nil,Nat.reduceEqDiff,Nat.reduceAdd,Nat.reduceMul,Nat.reduceLeDiff,Int.reduceBEq,Clause.ds,Lit.av,decide_eq_true hkl,List.getElem?_eq_getElem hkl,m0,m1,Int.zero_add])
         all_goals first | exact ht | exact hg | skip
         all_goals try simp only [ByteArray.size_append, f1, f2, g1, g2, Int.natCast_add]
         all_goals first | omega | (unfold maxLen; omega) | (right; omega) | (left; simp; done) | (simp only [wk3,wkL2,wk2,wkL,wk1_d,wk1_own,wk1_nil,and_self]; done) | (intro i hi; simp only [upd]; (repeat' split); all_goals first | rfl | omega) | skip
         all_goals exact ⟨((0 + 1, out ++ ((⟨#[32, 58, 45, 32]⟩ : ByteArray) ++ litText c.body[0])) : Nat × ByteArray), ⟨by show 0 + 1 ≤ _; omega, by simp only [ByteArray.size_append, g1]; omega, hI'⟩, Wk.of (by simp only [go_sem]) (by intro i hi; simp only [upd]; (repeat' split); all_goals first | rfl | omega) hok' (by omega) (by omega) (by simp only [go_sem]; omega), by simp only; omega⟩
       | succ k =>
         have hI' : bodyGo (k + 1 + 1) (out ++ ((⟨#[44, 32]⟩ : ByteArray) ++ litText c.body[k + 1])) (c.body.drop (k + 1 + 1)) = bodyGo 0 (litText c.head) c.body := by
          rw [← hI, bodyGo, ByteArray.append_assoc]
         have m0 : (if (1 : Int) < (k : Int) + 1 then (1 : Int) else (k : Int) + 1) = 1 := by split <;> omega
         have m1 : (1 : Int) - 1 = 0 := rfl
         repeat' (first | (with_reducible refine Or.inr (AW.treeX (E := EqT.no _) [] [0,2,3,4,7] (.two 1 (.two 5 (.two 6 (.one 8 (.one 9 (.one 10 (.one 11 .fin)))) 8 (.one 6 (.one 9 (.one 10 (.one 11 .fin))))) 8 (.one 5 (.one 6 (.one 9 (.one 10 (.one 11 .fin)))))) 8 (.one 1 (.one 5 (.one 6 (.one 9 (.one 10 (.one 11 .fin))))))) mixedP ?_ ?_ ?_ ?_); decide +kernel; (simp only [List.length_cons,List.length_nil]; decide); (intro j hj; exact absurd hj List.not_mem_nil)) | (with_reducible refine (AW.treeX (E := EqT.no _) [] [0,2,3,4,7] (.two 1 (.two 5 (.two 6 (.one 8 (.one 9 (.one 10 (.one 11 .fin)))) 8 (.one 6 (.one 9 (.one 10 (.one 11 .fin))))) 8 (.one 5 (.one 6 (.one 9 (.one 10 (.one 11 .fin)))))) 8 (.one 1 (.one 5 (.one 6 (.one 9 (.one 10 (.one 11 .fin))))))) mixedP ?_ ?_ ?_ ?_); decide +kernel; (simp only [List.length_cons,List.length_nil]; decide); (intro j hj; exact absurd hj List.not_mem_nil)) | (with_reducible refine MTq.of 4000 (by simp) ?_ ?_) | (with_reducible refine MTq.nil ?_) | (with_reducible refine MT.one 4000 (by simp) ?_) | (with_reducible refine MT.two 4000 (by simp) ?_ ?_) | (with_reducible refine MT.fin ?_) | (with_reducible first | refine XG_split (fun hq => ?_) (fun hq => ?_) | refine MX1.of 4000 (by simp) ?_ | refine MX2.of 4000 (by simp) ?_ | refine And.intro ?_ ?_) | ((with_reducible first | refine Or.inl (And.intro (And.intro mixedP ?_) ?_) | refine Or.inl (And.intro mixedP ?_)); kernel_rfl) | simp only [go_sem,ldK,ldW,blindK,List.mem_singleton,List.not_mem_nil,Nat.reduceEqDiff,Nat.reduceAdd,Nat.reduceMul,Nat.reduceLeDiff,Int.reduceBEq,Clause.ds,Lit.av,dnat1 hkl,toNat1,List.getElem?_eq_getElem hkl,m0,m1])
         all_goals first | exact ht | exact hg | skip
         all_goals try simp only [ByteArray.size_append, f1, f2, g1, g2, Int.natCast_add]
         all_goals first | omega | (unfold maxLen; omega) | (right; omega) | (left; simp; done) | (simp only [wk3,wkL2,wk2,wkL,wk1_d,wk1_own,wk1_nil,and_self]; done) | (intro i hi; simp only [upd]; (repeat' split); all_goals first | rfl | omega) | skip
         all_goals exact ⟨((k + 1 + 1, out ++ ((⟨#[44, 32]⟩ : ByteArray) ++ litText c.body[k + 1])) : Nat × ByteArray), ⟨by show k + 1 + 1 ≤ _; omega, by simp only [ByteArray.size_append, g2]; omega, hI'⟩, Wk.of (by simp only [go_sem]) (by intro i hi; simp only [upd]; (repeat' split); all_goals first | rfl | omega) hok' (by omega) (by omega) (by simp only [go_sem]; omega), by simp only; omega⟩
     · obtain rfl : k = c.body.length := by omega
       rw [List.drop_length] at hI
       have hout : out = bodyGo 0 (litText c.head) c.body := by
        rw [← hI]
        cases c.body.length <;> rfl
       repeat' (first | (with_reducible first | refine XG_split (fun hq => ?_) (fun hq => ?_) | refine MX1.of 4000 (by simp) ?_ | refine MX2.of 4000 (by simp) ?_ | refine And.intro ?_ ?_) | ((with_reducible first | refine Or.inl (And.intro (And.intro mixedP ?_) ?_) | refine Or.inl (And.intro mixedP ?_)); kernel_rfl) | simp only [go_sem,Nat.reduceEqDiff,Nat.reduceAdd,Nat.reduceMul,Nat.reduceLeDiff,Int.reduceBEq,Clause.ds,Nat.lt_irrefl,Int.lt_irrefl,decide_false])
       all_goals try simp only [ByteArray.size_append, f3, Int.natCast_add]
       all_goals first | omega | (unfold maxLen; omega) | (right; omega) | (left; simp; done) | (simp only [wk3,wkL2,wk2,wkL,wk1_d,wk1_own,wk1_nil,and_self]; done) | (intro i hi; simp only [upd]; (repeat' split); all_goals first | rfl | omega) | skip
       all_goals (refine wk3_eq ?_; simp [hS, clauseText, hout])
end Go.Proofs.YtfhpecgknmfnnaaGreatDoor.M
end
section
namespace Go.Proofs.YtfhpecgknmfnnaaGreatDoor.M
open Go.R
def noneB (l : Lit) : Bool := l.kind == 0 && (l.pred.size == 0 && ((l.who.var.size == 0 && (l.who.val.sym.size == 0 && l.who.val.num == 0)) && l.args.length == 0))
def bareB (q : Req) : Bool := q.label.size == 0 && (q.life == 0 && (q.no == 0 && (noneB q.lit && (noneB q.clause.head && q.clause.body.length == 0))))
abbrev maxTick : Int := 1099511627776
def checkQ (q : Req) : Bool :=
 if (q.kind == 1) = true then bareB { q with label := noStr, life := 0, clause := Clause.z } && (nameB q.label && (decide (0 ≤ q.life) && (decide (q.life ≤ maxTick) && checkB q.clause)))
 else if (q.kind == 2) = true then bareB { q with no := 0 } && (decide (1 ≤ q.no) && decide (q.no ≤ maxTick))
 else if (q.kind == 3 || q.kind == 4) = true then bareB { q with lit := Lit.z } && checkLitB q.lit
 else if (q.kind == 5) = true then bareB q else false
abbrev noneS : Fs := .pure (g1 aLit fun l => vB (noneB l))
abbrev bareS : Fs := .pure (g1 aReq fun q => vB (bareB q))
@[go_sem] theorem dNoT : dRows cTerm [] = some [] := rfl
@[go_sem] theorem dNoL : dRows cLit [] = some [] := rfl
def szQ (q : Req) : Prop := szC q.clause ∧ szL q.lit
abbrev checkQS : Fs := .pureIf (g1p aReq szQ) (g1 aReq fun q => vB (checkQ q))
set_option maxRecDepth 20000 in
set_option maxHeartbeats 8000000 in
theorem none_ok : FsOk Tryz.prog 65 noneS := by
 refine of_X1 (E := eqT) (F := Ft.no) Lit.av (fun _ _ => aLit_le) Tryz.func65 rfl (by kernel_rfl) [.tmp 2] rfl Tryz.ntmps65 (by decide) (FtOk.no _) ?_
 intro l h n hok
 have hl : ((l.args.length : Int) == 0) = (l.args.length == 0) := by rw [Bool.eq_iff_iff]; simp
 have hT : (l.who.var.size == 0 && (l.who.val.sym.size == 0 && l.who.val.num == 0)) = (l.who.var.toList == noStr.toList && (l.who.val.sym.toList == noStr.toList && l.who.val.num == 0)) := by rw [toList_eq_beq_no, toList_eq_beq_no]
 obtain ⟨x, hx⟩ : ∃ x, (l.who.var.size == 0 && (l.who.val.sym.size == 0 && l.who.val.num == 0)) = x := ⟨_, rfl⟩
 have hN : noneB l = (l.kind == 0 && (l.pred.size == 0 && (x && l.args.length == 0))) := by unfold noneB; rw [hx]
 cases h1 : l.kind == 0 <;> cases h2 : l.pred.size == 0 <;> cases x <;> cases h4 : l.args.length == 0
 all_goals
  rw [h1, h2, h4] at hN
  repeat' (first | (with_reducible first | refine XG_split (fun hq => ?_) (fun hq => ?_) | refine MX1.of 4000 (by simp) ?_ | refine MX2.of 4000 (by simp) ?_ | refine And.intro ?_ ?_) | ((with_reducible first | refine Or.inl (And.intro (And.intro mixedP ?_) ?_) | refine Or.inl (And.intro mixedP ?_)); kernel_rfl) | simp only [go_sem,Nat.reduceEqDiff,Nat.reduceAdd,Nat.reduceMul,Nat.reduceLeDiff,Int.reduceBEq,Lit.av,Lit.ds,h1,h2,hx,hl,h4,List.length_map])
  all_goals first | omega | (unfold maxLen; omega) | (right; omega) | (left; simp; done) | (simp only [wk3,wkL2,wk2,wkL,wk1_d,wk1_own,wk1_nil,and_self]; done) | (intro i hi; simp only [upd]; (repeat' split); all_goals first | rfl | omega) | skip
  all_goals first | (rw [hN]; exact wk3_eq rfl) | trace_state
set_option maxRecDepth 20000 in
set_option maxHeartbeats 8000000 in
theorem bare_ok : FsOk Tryz.prog 35 bareS := by
 refine of_X1 (E := EqT.no _) (F := Ft.no.put 65 noneS) Req.av (fun _ _ => aReq_le) Tryz.func35 rfl (by kernel_rfl) [.tmp 2] rfl Tryz.ntmps35 (by decide) ((FtOk.no _).put none_ok) ?_
 intro q h n hok
 have hl : ((q.clause.body.length : Int) == 0) = (q.clause.body.length == 0) := by rw [Bool.eq_iff_iff]; simp
 have hN : bareB q = (q.label.size == 0 && (q.life == 0 && (q.no == 0 && (noneB q.lit && (noneB q.clause.head && q.clause.body.length == 0))))) := rfl
 have a1 : (⟨q.lit.kind, ⟨q.lit.who.var, ⟨q.lit.who.val.sym, q.lit.who.val.num⟩⟩, q.lit.pred, q.lit.args⟩ : Lit) = q.lit := rfl
 have a2 : (⟨q.clause.head.kind, ⟨q.clause.head.who.var, ⟨q.clause.head.who.val.sym, q.clause.head.who.val.num⟩⟩, q.clause.head.pred, q.clause.head.args⟩ : Lit) = q.clause.head := rfl
 cases h1 : q.label.size == 0 with
 | false =>
   rw [h1] at hN
   repeat' (first | (with_reducible first | refine XG_split (fun hq => ?_) (fun hq => ?_) | refine MX1.of 4000 (by simp) ?_ | refine MX2.of 4000 (by simp) ?_ | refine And.intro ?_ ?_) | ((with_reducible first | refine Or.inl (And.intro (And.intro mixedP ?_) ?_) | refine Or.inl (And.intro mixedP ?_)); kernel_rfl) | simp only [go_sem,Nat.reduceEqDiff,Nat.reduceAdd,Nat.reduceMul,Nat.reduceLeDiff,Int.reduceBEq,Req.av,Req.ds,Lit.av,Lit.ds,hl,a1,a2,List.length_map,h1])
   all_goals first | omega | (unfold maxLen; omega) | (right; omega) | (left; simp; done) | (simp only [wk3,wkL2,wk2,wkL,wk1_d,wk1_own,wk1_nil,and_self]; done) | (intro i hi; simp only [upd]; (repeat' split); all_goals first | rfl | omega) | skip
   all_goals first | (rw [hN]; exact wk3_eq rfl) | trace_state
 | true =>
   cases h2 : q.life == 0 with
   | false =>
     rw [h1, h2] at hN
     repeat' (first | (with_reducible first | refine XG_split (fun hq => ?_) (fun hq => ?_) | refine MX1.of 4000 (by simp) ?_ | refine MX2.of 4000 (by simp) ?_ | refine And.intro ?_ ?_) | ((with_reducible first | refine Or.inl (And.intro (And.intro mixedP ?_) ?_) | refine Or.inl (And.intro mixedP ?_)); kernel_rfl) | simp only [go_sem,Nat.reduceEqDiff,Nat.reduceAdd,Nat.reduceMul,Nat.reduceLeDiff,Int.reduceBEq,Req.av,Req.ds,Lit.av,Lit.ds,hl,a1,a2,List.length_map,h1,h2])
     all_goals first | omega | (unfold maxLen; omega) | (right; omega) | (left; simp; done) | (simp only [wk3,wkL2,wk2,wkL,wk1_d,wk1_own,wk1_nil,and_self]; done) | (intro i hi; simp only [upd]; (repeat' split); all_goals first | rfl | omega) | skip
     all_goals first | (rw [hN]; exact wk3_eq rfl) | trace_state
   | true =>
     cases h3 : q.no == 0 with
     | false =>
       rw [h1, h2, h3] at hN
       repeat' (first | (with_reducible first | refine XG_split (fun hq => ?_) (fun hq => ?_) | refine MX1.of 4000 (by simp) ?_ | refine MX2.of 4000 (by simp) ?_ | refine And.intro ?_ ?_) | ((with_reducible first | refine Or.inl (And.intro (And.intro mixedP ?_) ?_) | refine Or.inl (And.intro mixedP ?_)); kernel_rfl) | simp only [go_sem,Nat.reduceEqDiff,Nat.reduceAdd,Nat.reduceMul,Nat.reduceLeDiff,Int.reduceBEq,Req.av,Req.ds,Lit.av,Lit.ds,hl,a1,a2,List.length_map,h1,h2,h3])
       all_goals first | omega | (unfold maxLen; omega) | (right; omega) | (left; simp; done) | (simp only [wk3,wkL2,wk2,wkL,wk1_d,wk1_own,wk1_nil,and_self]; done) | (intro i hi; simp only [upd]; (repeat' split); all_goals first | rfl | omega) | skip
       all_goals first | (rw [hN]; exact wk3_eq rfl) | trace_state
     | true =>
       cases h4 : noneB q.lit with
       | false =>
         rw [h1, h2, h3, h4] at hN
         repeat' (first | (with_reducible first | refine XG_split (fun hq => ?_) (fun hq => ?_) | refine MX1.of 4000 (by simp) ?_ | refine MX2.of 4000 (by simp) ?_ | refine And.intro ?_ ?_) | ((with_reducible first | refine Or.inl (And.intro (And.intro mixedP ?_) ?_) | refine Or.inl (And.intro mixedP ?_)); kernel_rfl) | simp only [go_sem,Nat.reduceEqDiff,Nat.reduceAdd,Nat.reduceMul,Nat.reduceLeDiff,Int.reduceBEq,Req.av,Req.ds,Lit.av,Lit.ds,hl,a1,a2,List.length_map,h1,h2,h3,h4])
         all_goals first | omega | (unfold maxLen; omega) | (right; omega) | (left; simp; done) | (simp only [wk3,wkL2,wk2,wkL,wk1_d,wk1_own,wk1_nil,and_self]; done) | (intro i hi; simp only [upd]; (repeat' split); all_goals first | rfl | omega) | skip
         all_goals first | (rw [hN]; exact wk3_eq rfl) | trace_state
       | true =>
         cases h5 : noneB q.clause.head with
         | false =>
           rw [h1, h2, h3, h4, h5] at hN
           repeat' (first | (with_reducible first | refine XG_split (fun hq => ?_) (fun hq => ?_) | refine MX1.of 4000 (by simp) ?_ | refine MX2.of 4000 (by simp) ?_ | refine And.intro ?_ ?_) | ((with_reducible first | refine Or.inl (And.intro (And.intro mixedP ?_) ?_) | refine Or.inl (And.intro mixedP ?_)); kernel_rfl) | simp only [go_sem,Nat.reduceEqDiff,Nat.reduceAdd,Nat.reduceMul,Nat.reduceLeDiff,Int.reduceBEq,Req.av,Req.ds,Lit.av,Lit.ds,hl,a1,a2,List.length_map,h1,h2,h3,h4,h5])
           all_goals first | omega | (unfold maxLen; omega) | (right; omega) | (left; simp; done) | (simp only [wk3,wkL2,wk2,wkL,wk1_d,wk1_own,wk1_nil,and_self]; done) | (intro i hi; simp only [upd]; (repeat' split); all_goals first | rfl | omega) | skip
           all_goals first | (rw [hN]; exact wk3_eq rfl) | trace_state
         | true =>
           cases h6 : q.clause.body.length == 0 with
           | false =>
             rw [h1, h2, h3, h4, h5, h6] at hN
             repeat' (first | (with_reducible first | refine XG_split (fun hq => ?_) (fun hq => ?_) | refine MX1.of 4000 (by simp) ?_ | refine MX2.of 4000 (by simp) ?_ | refine And.intro ?_ ?_) | ((with_reducible first | refine Or.inl (And.intro (And.intro mixedP ?_) ?_) | refine Or.inl (And.intro mixedP ?_)); kernel_rfl) | simp only [go_sem,Nat.reduceEqDiff,Nat.reduceAdd,Nat.reduceMul,Nat.reduceLeDiff,Int.reduceBEq,Req.av,Req.ds,Lit.av,Lit.ds,hl,a1,a2,List.length_map,h1,h2,h3,h4,h5,h6])
             all_goals first | omega | (unfold maxLen; omega) | (right; omega) | (left; simp; done) | (simp only [wk3,wkL2,wk2,wkL,wk1_d,wk1_own,wk1_nil,and_self]; done) | (intro i hi; simp only [upd]; (repeat' split); all_goals first | rfl | omega) | skip
             all_goals first | (rw [hN]; exact wk3_eq rfl) | trace_state
           | true =>
             rw [h1, h2, h3, h4, h5, h6] at hN
             repeat' (first | (with_reducible first | refine XG_split (fun hq => ?_) (fun hq => ?_) | refine MX1.of 4000 (by simp) ?_ | refine MX2.of 4000 (by simp) ?_ | refine And.intro ?_ ?_) | ((with_reducible first | refine Or.inl (And.intro (And.intro mixedP ?_) ?_) | refine Or.inl (And.intro mixedP ?_)); kernel_rfl) | simp only [go_sem,Nat.reduceEqDiff,Nat.reduceAdd,Nat.reduceMul,Nat.reduceLeDiff,Int.reduceBEq,Req.av,Req.ds,Lit.av,Lit.ds,hl,a1,a2,List.length_map,h1,h2,h3,h4,h5,h6])
             all_goals first | omega | (unfold maxLen; omega) | (right; omega) | (left; simp; done) | (simp only [wk3,wkL2,wk2,wkL,wk1_d,wk1_own,wk1_nil,and_self]; done) | (intro i hi; simp only [upd]; (repeat' split); all_goals first | rfl | omega) | skip
             all_goals first | (rw [hN]; exact wk3_eq rfl) | trace_state
set_option maxRecDepth 20000 in
set_option maxHeartbeats 8000000 in
theorem checkQ_ok : FsOk Tryz.prog 12 checkQS := by
 refine of_Y1 (E := EqT.no _) (F := (((Ft.no.put 35 bareS).put 36 nameS).put 37 pcheckS).put 38 pcheckLitS) Req.av (fun _ _ => aReq_le) Tryz.func12 rfl (by kernel_rfl) [.tmp 2] rfl Tryz.ntmps12 (by decide) (((((FtOk.no _).put bare_ok).put name_ok).put pcheck_ok).put pcheckLit_ok) ?_
 intro q h n hp hok
 obtain ⟨hp1, hp2⟩ := hp
 have a1 : (⟨q.lit.kind, ⟨q.lit.who.var, ⟨q.lit.who.val.sym, q.lit.who.val.num⟩⟩, q.lit.pred, q.lit.args⟩ : Lit) = q.lit := rfl
 have a2 : (⟨⟨q.clause.head.kind, ⟨q.clause.head.who.var, ⟨q.clause.head.who.val.sym, q.clause.head.who.val.num⟩⟩, q.clause.head.pred, q.clause.head.args⟩, q.clause.body⟩ : Clause) = q.clause := rfl
 cases k1 : q.kind == 1 with
 | true =>
   have hN : checkQ q = (bareB { q with label := noStr, life := 0, clause := Clause.z } && (nameB q.label && (decide (0 ≤ q.life) && (decide (q.life ≤ maxTick) && checkB q.clause)))) := by unfold checkQ; rw [k1, if_pos rfl]
   obtain ⟨b, hb⟩ : ∃ b, bareB { q with label := noStr, life := 0, clause := Clause.z } = b := ⟨_, rfl⟩
   have hb' : bareB ⟨q.kind, ⟨#[]⟩, 0, ⟨⟨0, ⟨⟨#[]⟩, ⟨⟨#[]⟩, 0⟩⟩, ⟨#[]⟩, []⟩, []⟩, q.no, q.lit⟩ = b := hb
   rw [hb] at hN
   cases b with
   | false =>
     repeat' (first | (with_reducible first | refine XG_split (fun hq => ?_) (fun hq => ?_) | refine MX1.of 4000 (by simp) ?_ | refine MX2.of 4000 (by simp) ?_ | refine And.intro ?_ ?_) | ((with_reducible first | refine Or.inl (And.intro (And.intro mixedP ?_) ?_) | refine Or.inl (And.intro mixedP ?_)); kernel_rfl) | simp only [go_sem,Nat.reduceEqDiff,Nat.reduceAdd,Nat.reduceMul,Nat.reduceLeDiff,Int.reduceBEq,Req.av,Req.ds,Lit.av,Lit.ds,Clause.av,Clause.ds,a1,a2,k1,List.length_map,hb'])
     all_goals first | omega | (unfold maxLen; omega) | (right; omega) | (left; simp; done) | (simp only [wk3,wkL2,wk2,wkL,wk1_d,wk1_own,wk1_nil,and_self]; done) | (intro i hi; simp only [upd]; (repeat' split); all_goals first | rfl | omega) | skip
     all_goals first | (rw [hN]; exact wk3_eq rfl) | trace_state
   | true =>
     cases h1 : nameB q.label with
     | false =>
       rw [h1] at hN
       repeat' (first | (with_reducible first | refine XG_split (fun hq => ?_) (fun hq => ?_) | refine MX1.of 4000 (by simp) ?_ | refine MX2.of 4000 (by simp) ?_ | refine And.intro ?_ ?_) | ((with_reducible first | refine Or.inl (And.intro (And.intro mixedP ?_) ?_) | refine Or.inl (And.intro mixedP ?_)); kernel_rfl) | simp only [go_sem,Nat.reduceEqDiff,Nat.reduceAdd,Nat.reduceMul,Nat.reduceLeDiff,Int.reduceBEq,Req.av,Req.ds,Lit.av,Lit.ds,Clause.av,Clause.ds,a1,a2,k1,List.length_map,hb',h1])
       all_goals first | omega | (unfold maxLen; omega) | (right; omega) | (left; simp; done) | (simp only [wk3,wkL2,wk2,wkL,wk1_d,wk1_own,wk1_nil,and_self]; done) | (intro i hi; simp only [upd]; (repeat' split); all_goals first | rfl | omega) | skip
       all_goals first | (rw [hN]; exact wk3_eq rfl) | trace_state
     | true =>
       cases h2 : decide (0 ≤ q.life) with
       | false =>
         rw [h1, h2] at hN
         repeat' (first | (with_reducible first | refine XG_split (fun hq => ?_) (fun hq => ?_) | refine MX1.of 4000 (by simp) ?_ | refine MX2.of 4000 (by simp) ?_ | refine And.intro ?_ ?_) | ((with_reducible first | refine Or.inl (And.intro (And.intro mixedP ?_) ?_) | refine Or.inl (And.intro mixedP ?_)); kernel_rfl) | simp only [go_sem,Nat.reduceEqDiff,Nat.reduceAdd,Nat.reduceMul,Nat.reduceLeDiff,Int.reduceBEq,Req.av,Req.ds,Lit.av,Lit.ds,Clause.av,Clause.ds,a1,a2,k1,List.length_map,hb',h1,h2])
         all_goals first | omega | (unfold maxLen; omega) | (right; omega) | (left; simp; done) | (simp only [wk3,wkL2,wk2,wkL,wk1_d,wk1_own,wk1_nil,and_self]; done) | (intro i hi; simp only [upd]; (repeat' split); all_goals first | rfl | omega) | skip
         all_goals first | (rw [hN]; exact wk3_eq rfl) | trace_state
       | true =>
         cases h3 : decide (q.life ≤ 1099511627776) with
         | false =>
           rw [h1, h2, h3] at hN
           repeat' (first | (with_reducible first | refine XG_split (fun hq => ?_) (fun hq => ?_) | refine MX1.of 4000 (by simp) ?_ | refine MX2.of 4000 (by simp) ?_ | refine And.intro ?_ ?_) | ((with_reducible first | refine Or.inl (And.intro (And.intro mixedP ?_) ?_) | refine Or.inl (And.intro mixedP ?_)); kernel_rfl) | simp only [go_sem,Nat.reduceEqDiff,Nat.reduceAdd,Nat.reduceMul,Nat.reduceLeDiff,Int.reduceBEq,Req.av,Req.ds,Lit.av,Lit.ds,Clause.av,Clause.ds,a1,a2,k1,List.length_map,hb',h1,h2,h3])
           all_goals first | omega | (unfold maxLen; omega) | (right; omega) | (left; simp; done) | (simp only [wk3,wkL2,wk2,wkL,wk1_d,wk1_own,wk1_nil,and_self]; done) | (intro i hi; simp only [upd]; (repeat' split); all_goals first | rfl | omega) | skip
           all_goals first | (rw [hN]; exact wk3_eq rfl) | trace_state
         | true =>
           rw [h1, h2, h3] at hN
           repeat' (first | (with_reducible first | refine XG_split (fun hq => ?_) (fun hq => ?_) | refine MX1.of 4000 (by simp) ?_ | refine MX2.of 4000 (by simp) ?_ | refine And.intro ?_ ?_) | ((with_reducible first | refine Or.inl (And.intro (And.intro mixedP ?_) ?_) | refine Or.inl (And.intro mixedP ?_)); kernel_rfl) | simp only [go_sem,Nat.reduceEqDiff,Nat.reduceAdd,Nat.reduceMul,Nat.reduceLeDiff,Int.reduceBEq,Req.av,Req.ds,Lit.av,Lit.ds,Clause.av,Clause.ds,a1,a2,k1,List.length_map,hb',h1,h2,h3])
           all_goals first | exact hp1 | exact hp2 | skip
           all_goals first | omega | (unfold maxLen; omega) | (right; omega) | (left; simp; done) | (simp only [wk3,wkL2,wk2,wkL,wk1_d,wk1_own,wk1_nil,and_self]; done) | (intro i hi; simp only [upd]; (repeat' split); all_goals first | rfl | omega) | skip
           all_goals first | (rw [hN]; exact wk3_eq rfl) | trace_state
 | false =>
   cases k2 : q.kind == 2 with
   | true =>
     have hN : checkQ q = (bareB { q with no := 0 } && (decide (1 ≤ q.no) && decide (q.no ≤ maxTick))) := by unfold checkQ; rw [k1, k2]; rfl
     obtain ⟨b, hb⟩ : ∃ b, bareB { q with no := 0 } = b := ⟨_, rfl⟩
     have hb' : bareB ⟨q.kind, q.label, q.life, q.clause, 0, q.lit⟩ = b := hb
     rw [hb] at hN
     cases b <;> cases h2 : decide (1 ≤ q.no) <;> cases h3 : decide (q.no ≤ 1099511627776)
     all_goals
      rw [h2, h3] at hN
      repeat' (first | (with_reducible first | refine XG_split (fun hq => ?_) (fun hq => ?_) | refine MX1.of 4000 (by simp) ?_ | refine MX2.of 4000 (by simp) ?_ | refine And.intro ?_ ?_) | ((with_reducible first | refine Or.inl (And.intro (And.intro mixedP ?_) ?_) | refine Or.inl (And.intro mixedP ?_)); kernel_rfl) | simp only [go_sem,Nat.reduceEqDiff,Nat.reduceAdd,Nat.reduceMul,Nat.reduceLeDiff,Int.reduceBEq,Req.av,Req.ds,Lit.av,Lit.ds,Clause.av,Clause.ds,a1,a2,k1,List.length_map,hb',h2,h3,k2])
      all_goals first | omega | (unfold maxLen; omega) | (right; omega) | (left; simp; done) | (simp only [wk3,wkL2,wk2,wkL,wk1_d,wk1_own,wk1_nil,and_self]; done) | (intro i hi; simp only [upd]; (repeat' split); all_goals first | rfl | omega) | skip
      all_goals first | (rw [hN]; exact wk3_eq rfl) | trace_state
   | false =>
     cases k3 : q.kind == 3 || q.kind == 4 with
     | true =>
       have hN : checkQ q = (bareB { q with lit := Lit.z } && checkLitB q.lit) := by unfold checkQ; rw [k1, k2, k3]; rfl
       obtain ⟨b, hb⟩ : ∃ b, bareB { q with lit := Lit.z } = b := ⟨_, rfl⟩
       have hb' : bareB ⟨q.kind, q.label, q.life, q.clause, q.no, ⟨0, ⟨⟨#[]⟩, ⟨⟨#[]⟩, 0⟩⟩, ⟨#[]⟩, []⟩⟩ = b := hb
       rw [hb] at hN
       cases k4 : q.kind == 3 with
       | true =>
         cases b
         all_goals
          repeat' (first | (with_reducible first | refine XG_split (fun hq => ?_) (fun hq => ?_) | refine MX1.of 4000 (by simp) ?_ | refine MX2.of 4000 (by simp) ?_ | refine And.intro ?_ ?_) | ((with_reducible first | refine Or.inl (And.intro (And.intro mixedP ?_) ?_) | refine Or.inl (And.intro mixedP ?_)); kernel_rfl) | simp only [go_sem,Nat.reduceEqDiff,Nat.reduceAdd,Nat.reduceMul,Nat.reduceLeDiff,Int.reduceBEq,Req.av,Req.ds,Lit.av,Lit.ds,Clause.av,Clause.ds,a1,a2,k1,List.length_map,hb',k2,k4])
          all_goals first | exact hp1 | exact hp2 | skip
          all_goals first | omega | (unfold maxLen; omega) | (right; omega) | (left; simp; done) | (simp only [wk3,wkL2,wk2,wkL,wk1_d,wk1_own,wk1_nil,and_self]; done) | (intro i hi; simp only [upd]; (repeat' split); all_goals first | rfl | omega) | skip
          all_goals first | (rw [hN]; exact wk3_eq rfl) | trace_state
       | false =>
         have k5 : (q.kind == 4) = true := by rw [k4] at k3; exact k3
         cases b
         all_goals
          repeat' (first | (with_reducible first | refine XG_split (fun hq => ?_) (fun hq => ?_) | refine MX1.of 4000 (by simp) ?_ | refine MX2.of 4000 (by simp) ?_ | refine And.intro ?_ ?_) | ((with_reducible first | refine Or.inl (And.intro (And.intro mixedP ?_) ?_) | refine Or.inl (And.intro mixedP ?_)); kernel_rfl) | simp only [go_sem,Nat.reduceEqDiff,Nat.reduceAdd,Nat.reduceMul,Nat.reduceLeDiff,Int.reduceBEq,Req.av,Req.ds,Lit.av,Lit.ds,Clause.av,Clause.ds,a1,a2,k1,List.length_map,hb',k2,k4,k5])
          all_goals first | exact hp1 | exact hp2 | skip
          all_goals first | omega | (unfold maxLen; omega) | (right; omega) | (left; simp; done) | (simp only [wk3,wkL2,wk2,wkL,wk1_d,wk1_own,wk1_nil,and_self]; done) | (intro i hi; simp only [upd]; (repeat' split); all_goals first | rfl | omega) | skip
          all_goals first | (rw [hN]; exact wk3_eq rfl) | trace_state
     | false =>
       have k4 : (q.kind == 3) = false := by revert k3; cases q.kind == 3 <;> simp
       have k5 : (q.kind == 4) = false := by revert k3; cases q.kind == 4 <;> simp
       cases k6 : q.kind == 5 with
       | true =>
         have hN : checkQ q = bareB q := by unfold checkQ; rw [k1, k2, k3, k6]; rfl
         have hb' : bareB ⟨q.kind, q.label, q.life, q.clause, q.no, q.lit⟩ = bareB q := rfl
         repeat' (first | (with_reducible first | refine XG_split (fun hq => ?_) (fun hq => ?_) | refine MX1.of 4000 (by simp) ?_ | refine MX2.of 4000 (by simp) ?_ | refine And.intro ?_ ?_) | ((with_reducible first | refine Or.inl (And.intro (And.intro mixedP ?_) ?_) | refine Or.inl (And.intro mixedP ?_)); kernel_rfl) | simp only [go_sem,Nat.reduceEqDiff,Nat.reduceAdd,Nat.reduceMul,Nat.reduceLeDiff,Int.reduceBEq,Req.av,Req.ds,Lit.av,Lit.ds,Clause.av,Clause.ds,a1,a2,k1,List.length_map,hb',k2,k4,k5,k6])
         all_goals first | omega | (unfold maxLen; omega) | (right; omega) | (left; simp; done) | (simp only [wk3,wkL2,wk2,wkL,wk1_d,wk1_own,wk1_nil,and_self]; done) | (intro i hi; simp only [upd]; (repeat' split); all_goals first | rfl | omega) | skip
         all_goals first | (rw [hN]; exact wk3_eq rfl) | trace_state
       | false =>
         have hN : checkQ q = false := by unfold checkQ; rw [k1, k2, k3, k6]; rfl
         repeat' (first | (with_reducible first | refine XG_split (fun hq => ?_) (fun hq => ?_) | refine MX1.of 4000 (by simp) ?_ | refine MX2.of 4000 (by simp) ?_ | refine And.intro ?_ ?_) | ((with_reducible first | refine Or.inl (And.intro (And.intro mixedP ?_) ?_) | refine Or.inl (And.intro mixedP ?_)); kernel_rfl) | simp only [go_sem,Nat.reduceEqDiff,Nat.reduceAdd,Nat.reduceMul,Nat.reduceLeDiff,Int.reduceBEq,Req.av,Req.ds,Lit.av,Lit.ds,Clause.av,Clause.ds,a1,a2,k1,List.length_map,k2,k4,k5,k6])
         all_goals first | omega | (unfold maxLen; omega) | (right; omega) | (left; simp; done) | (simp only [wk3,wkL2,wk2,wkL,wk1_d,wk1_own,wk1_nil,and_self]; done) | (intro i hi; simp only [upd]; (repeat' split); all_goals first | rfl | omega) | skip
         all_goals first | (rw [hN]; exact wk3_eq rfl) | trace_state
end Go.Proofs.YtfhpecgknmfnnaaGreatDoor.M
end
section
namespace Go.Proofs.YtfhpecgknmfnnaaGreatDoor.M
open Go.R Go.RowKit
theorem aI64_eq {x : AV} {n : Int} (h : aI64 x = some n) : x = vI n := by
 unfold aI64 at h
 split at h
 · cases h; rfl
 · cases h
theorem ba_app (a b : List UInt8) : (⟨(a ++ b).toArray⟩ : ByteArray) = ⟨a.toArray⟩ ++ ⟨b.toArray⟩ := by
 apply ByteArray.ext
 rw [ByteArray.data_append]
 simp
theorem str_one (k : Nat) : strOf [48 + (k : Int)] = ⟨[UInt8.ofNat (48 + k)].toArray⟩ := by
 have : (48 + (k : Int)).toNat = 48 + k := by omega
 unfold strOf
 rw [List.foldl_cons, List.foldl_nil, this]
 rfl
theorem dec_digits (u : Nat) : strOf (decL u) = ⟨(Lib.decDigits u).toArray⟩ := by
 induction u using Nat.strongRecOn with
 | _ u ih =>
   by_cases h : u < 10
   · rw [decL, dif_pos h, Lib.decDigits, dif_pos h, str_one]
   · rw [decL, dif_neg h, Lib.decDigits, dif_neg h, strOf_append, ih _ (by omega), str_one, ba_app]
theorem below_grow {w : World} {k : Nat} {os : Array Obj} : Below w.heap.size w (Sort.grow (w.drewN k) os) :=
 ⟨rfl, rfl, rfl, by simp [Sort.grow], fun b hb => by simp [Sort.grow, Array.getElem?_append, hb]⟩
theorem itoa_num (n : Int) : (⟨(Lib.itoa n).toArray⟩ : ByteArray) = numText n := by
 unfold Lib.itoa numText
 split
 · rw [show (45 :: decL (-n).toNat) = [45] ++ decL (-n).toNat from rfl, strOf_append, dec_digits, show (45 :: Lib.decDigits n.natAbs) = [45] ++ Lib.decDigits n.natAbs from rfl, ba_app, show n.natAbs = (-n).toNat from by omega]
   rfl
 · rw [dec_digits]
abbrev fmtS : Fs := .pureIf (g2p aI64 aI64 fun n b => i64 n ∧ b = 10) (g2 aI64 aI64 fun n b => vS (numText n))
theorem tab_is {c : Cx} {h : AH} {n : Nat} {w : World} (hw : Wd c h n w) : Lib.TabIs Tryz.prog w "internal/strconv.uint64pow10" .u64 Lib.pow10Tab :=
 (hw.glob _ (List.mem_singleton.2 rfl)).2 w rfl
theorem fmt60_ok : FsOk Tryz.prog 60 fmtS := by
 refine of_hold Tryz.func60 rfl (by kernel_rfl) ?_
 intro args r c h n w vals hp hg hw hl hr
 obtain ⟨x, y, k, b, rfl, hx, hy, rfl⟩ := g2_eq hg
 obtain ⟨hk, rfl⟩ := hp k hx b hy
 obtain rfl := aI64_eq hx
 obtain rfl := aI64_eq hy
 match vals, hl with
 | [v, u], _ =>
   have hv := hr 0 v _ rfl rfl
   obtain rfl := cval_rep hv rfl
   have hu := hr 1 u _ rfl rfl
   obtain rfl := cval_rep hu rfl
   refine (Any.internal_strconv_FormatInt_10 (P := Tryz.prog) { Tryz.laysM171 with } k hk.1 hk.2 w (tab_is hw)).mono fun e w' hq => ?_
   obtain ⟨rfl, q, os, rfl⟩ := hq
   exact ⟨_, rfl, below_grow, by rw [itoa_num]; exact rep_v _ rfl⟩
abbrev itoaS : Fs := .pureIf (g1p aI64 i64) (g1 aI64 fun n => vS (numText n))
theorem itoa_ok : FsOk Tryz.prog 27 itoaS := by
 refine of_hold Tryz.func27 rfl (by kernel_rfl) ?_
 intro args r c h n w vals hp hg hw hl hr
 obtain ⟨x, k, rfl, hx, rfl⟩ := g1_eq hg
 have hk := hp k hx
 obtain rfl := aI64_eq hx
 match vals, hl with
 | [v], _ =>
   have hv := hr 0 v _ rfl rfl
   obtain rfl := cval_rep hv rfl
   refine (Tryz.strconv_Itoa k hk.1 hk.2 w (tab_is hw)).mono fun e w' hq => ?_
   obtain ⟨rfl, q, os, rfl⟩ := hq
   exact ⟨_, rfl, below_grow, by rw [itoa_num]; exact rep_v _ rfl⟩
set_option maxRecDepth 20000 in
set_option maxHeartbeats 4000000 in
theorem fmt_ok : FsOk Tryz.prog 26 fmtS := by
 refine of_Y2 (E := EqT.no _) (F := Ft.no.put 60 fmtS) vI vI (fun _ _ => aI64_le) (fun _ _ => aI64_le) Tryz.func26 rfl (by kernel_rfl) [.tmp 4] rfl Tryz.ntmps26 (by decide) ((FtOk.no _).put fmt60_ok) ?_
 intro k b h n hp hok
 repeat' (first | (with_reducible first | refine XG_split (fun hq => ?_) (fun hq => ?_) | refine MX1.of 4000 (by simp) ?_ | refine MX2.of 4000 (by simp) ?_ | refine And.intro ?_ ?_) | ((with_reducible first | refine Or.inl (And.intro (And.intro mixedP ?_) ?_) | refine Or.inl (And.intro mixedP ?_)); kernel_rfl) | simp only [go_sem,Nat.reduceEqDiff,Nat.reduceAdd,Nat.reduceMul,Nat.reduceLeDiff,Int.reduceBEq])
 all_goals first | exact hp | exact hp.1 | exact hp.2 | skip
 all_goals first | omega | (unfold maxLen; omega) | (right; omega) | (left; simp; done) | (simp only [wk3,wkL2,wk2,wkL,wk1_d,wk1_own,wk1_nil,and_self]; done) | (intro i hi; simp only [upd]; (repeat' split); all_goals first | rfl | omega) | skip
end Go.Proofs.YtfhpecgknmfnnaaGreatDoor.M
end
section
namespace Go.Proofs.YtfhpecgknmfnnaaGreatDoor.M
open Go.R
def textQ (q : Req) : ByteArray :=
 if (q.kind == 1) = true then (if decide (0 < q.life) = true then (⟨#[97, 115, 115, 101, 114, 116, 32]⟩ : ByteArray) ++ q.label ++ (⟨#[32]⟩ : ByteArray) ++ ((⟨#[102, 111, 114, 32]⟩ : ByteArray) ++ numText q.life ++ (⟨#[32]⟩ : ByteArray)) ++ (printB q.clause).1 else (⟨#[97, 115, 115, 101, 114, 116, 32]⟩ : ByteArray) ++ q.label ++ (⟨#[32]⟩ : ByteArray) ++ (printB q.clause).1)
 else if (q.kind == 2) = true then (⟨#[114, 101, 118, 111, 107, 101, 32]⟩ : ByteArray) ++ numText q.no
 else if (q.kind == 3) = true then (⟨#[113, 117, 101, 114, 121, 32]⟩ : ByteArray) ++ (printLitB q.lit).1
 else if (q.kind == 4) = true then (⟨#[112, 114, 111, 118, 101, 32]⟩ : ByteArray) ++ (printLitB q.lit).1
 else if (q.kind == 5) = true then (⟨#[97, 117, 100, 105, 116]⟩ : ByteArray) else noStr
def outQ (s : ByteArray) : ByteArray × Int := if decide (4096 < (s.size : Int)) = true then (noStr, 2) else (s, 0)
def printQ (q : Req) : ByteArray × Int := if checkQ q = true then outQ (textQ q) else (noStr, 1)
def reqI (q : Req) : Prop := clauseI q.clause ∧ litI q.lit ∧ i64 q.life ∧ i64 q.no
abbrev printQS : Fs := .pureIf (g1p aReq fun q => reqI q ∧ szQ q) (g1 aReq fun q => .tup [vS (printQ q).1, vI (printQ q).2])
theorem bodyQ_size : ∀ (l : List Lit) (k : Nat) (out : ByteArray), (∀ t ∈ l, litI t) → l.all literalB = true → (bodyGo k out l).size ≤ out.size + 204 * l.length
 | [], k, out, _, _ => by cases k <;> simp [bodyGo]
 | t :: r, k, out, hi, hb => by
   simp only [List.all_cons, Bool.and_eq_true] at hb
   have h1 := litText_size (hi t (by simp)) hb.1
   have g1 : (⟨#[32, 58, 45, 32]⟩ : ByteArray).size = 4 := rfl
   have g2 : (⟨#[44, 32]⟩ : ByteArray).size = 2 := rfl
   have hi' : ∀ u ∈ r, litI u := fun u hu => hi u (by simp [hu])
   cases k with
   | zero =>
     have := bodyQ_size r 1 (out ++ ⟨#[32, 58, 45, 32]⟩ ++ litText t) hi' hb.2
     simp only [bodyGo, ByteArray.size_append, List.length_cons] at this ⊢
     omega
   | succ k =>
     have := bodyQ_size r (k + 2) (out ++ ⟨#[44, 32]⟩ ++ litText t) hi' hb.2
     simp only [bodyGo, ByteArray.size_append, List.length_cons] at this ⊢
     omega
theorem printB_size {c : Clause} (h : clauseI c) : (printB c).1.size ≤ 2000 := by
 unfold printB
 split
 · rename_i hc
   unfold checkB at hc
   simp only [Bool.and_eq_true, decide_eq_true_eq] at hc
   obtain ⟨⟨⟨h1, h2⟩, h3⟩, h4⟩ := hc
   have e1 := litText_size h.1 (checkLit_literal h1)
   have e2 := bodyQ_size c.body 0 (litText c.head) h.2 h4
   have g1 : (⟨#[46]⟩ : ByteArray).size = 1 := rfl
   unfold clauseText
   rw [ByteArray.size_append]
   omega
 · exact Nat.zero_le _
theorem printLitB_size {l : Lit} (h : litI l) : (printLitB l).1.size ≤ 2000 := by
 unfold printLitB
 split
 · rename_i hc
   have e1 := litText_size h (checkLit_literal hc)
   show (litText l).size ≤ 2000
   omega
 · exact Nat.zero_le _
theorem check_label {q : Req} (h : checkQ q = true) (k : (q.kind == 1) = true) : q.label.size ≤ 16 := by
 unfold checkQ at h
 rw [k, if_pos rfl] at h
 simp only [Bool.and_eq_true] at h
 exact nameB_size h.2.1
set_option maxRecDepth 20000 in
set_option maxHeartbeats 8000000 in
theorem printQ_ok : FsOk Tryz.prog 9 printQS := by
 refine of_Y1 (E := EqT.no _) (F := ((((Ft.no.put 12 checkQS).put 25 pprintS).put 28 pprintLitS).put 26 fmtS).put 27 itoaS) Req.av (fun _ _ => aReq_le) Tryz.func9 rfl (by kernel_rfl) [.tmp 2, .tmp 3] rfl Tryz.ntmps9 (by decide) ((((((FtOk.no _).put checkQ_ok).put pprint_ok).put pprintLit_ok).put fmt_ok).put itoa_ok) ?_
 intro q h n hp hok
 obtain ⟨⟨hi1, hi2, hi3, hi4⟩, hz⟩ := hp
 obtain ⟨hz1, hz2⟩ := hz
 have a0 : (⟨q.kind, q.label, q.life, ⟨⟨q.clause.head.kind, ⟨q.clause.head.who.var, ⟨q.clause.head.who.val.sym, q.clause.head.who.val.num⟩⟩, q.clause.head.pred, q.clause.head.args⟩, q.clause.body⟩, q.no, ⟨q.lit.kind, ⟨q.lit.who.var, ⟨q.lit.who.val.sym, q.lit.who.val.num⟩⟩, q.lit.pred, q.lit.args⟩⟩ : Req) = q := rfl
 have a1 : (⟨q.lit.kind, ⟨q.lit.who.var, ⟨q.lit.who.val.sym, q.lit.who.val.num⟩⟩, q.lit.pred, q.lit.args⟩ : Lit) = q.lit := rfl
 have a2 : (⟨⟨q.clause.head.kind, ⟨q.clause.head.who.var, ⟨q.clause.head.who.val.sym, q.clause.head.who.val.num⟩⟩, q.clause.head.pred, q.clause.head.args⟩, q.clause.body⟩ : Clause) = q.clause := rfl
 have s1 := printB_size hi1
 have s2 := printLitB_size hi2
 have s3 := numText_size hi3
 have s4 := numText_size hi4
 have g1 : (⟨#[97, 115, 115, 101, 114, 116, 32]⟩ : ByteArray).size = 7 := rfl
 have g2 : (⟨#[114, 101, 118, 111, 107, 101, 32]⟩ : ByteArray).size = 7 := rfl
 have g3 : (⟨#[113, 117, 101, 114, 121, 32]⟩ : ByteArray).size = 6 := rfl
 have g4 : (⟨#[112, 114, 111, 118, 101, 32]⟩ : ByteArray).size = 6 := rfl
 have g5 : (⟨#[102, 111, 114, 32]⟩ : ByteArray).size = 4 := rfl
 have g6 : (⟨#[32]⟩ : ByteArray).size = 1 := rfl
 have f1 : #[(97 : UInt8), 115, 115, 101, 114, 116, 32].size = 7 := rfl
 have f2 : #[(114 : UInt8), 101, 118, 111, 107, 101, 32].size = 7 := rfl
 have f3 : #[(113 : UInt8), 117, 101, 114, 121, 32].size = 6 := rfl
 have f4 : #[(112 : UInt8), 114, 111, 118, 101, 32].size = 6 := rfl
 have f5 : #[(102 : UInt8), 111, 114, 32].size = 4 := rfl
 have f6 : #[(32 : UInt8)].size = 1 := rfl
 have f7 : #[(97 : UInt8), 117, 100, 105, 116].size = 5 := rfl
 have hout : ∀ s, outQ s = if decide (4096 < (s.size : Int)) = true then (noStr, 2) else (s, 0) := fun _ => rfl
 cases hc : checkQ q with
 | false =>
   have hN : printQ q = (noStr, 1) := by unfold printQ; rw [hc]; rfl
   repeat' (first | (with_reducible first | refine XG_split (fun hq => ?_) (fun hq => ?_) | refine MX1.of 4000 (by simp) ?_ | refine MX2.of 4000 (by simp) ?_ | refine And.intro ?_ ?_) | ((with_reducible first | refine Or.inl (And.intro (And.intro mixedP ?_) ?_) | refine Or.inl (And.intro mixedP ?_)); kernel_rfl) | simp only [go_sem,Nat.reduceEqDiff,Nat.reduceAdd,Nat.reduceMul,Nat.reduceLeDiff,Int.reduceBEq,Req.av,Req.ds,Lit.av,Lit.ds,Clause.av,Clause.ds,a1,a2,List.length_map,a0,hc])
   all_goals first | omega | exact ⟨hz1,hz2⟩ | exact ⟨hi1,hz1⟩ | exact ⟨hi2,hz2⟩ | exact ⟨hi3,rfl⟩ | exact hi3 | exact hi4 | exact hi1 | exact hi2 | exact hz1 | exact hz2 | exact ⟨hi3.1,hi3.2⟩ | skip
   all_goals first | omega | (unfold maxLen; omega) | (right; omega) | (left; simp; done) | (simp only [wk3,wkL2,wk2,wkL,wk1_d,wk1_own,wk1_nil,and_self]; done) | (intro i hi; simp only [upd]; (repeat' split); all_goals first | rfl | omega) | skip
   all_goals first | (rw [hN]; exact wk3_eq rfl) | trace_state
 | true =>
   have hN : printQ q = outQ (textQ q) := by unfold printQ; rw [hc, if_pos rfl]
   have hlab := check_label hc
   cases k1 : q.kind == 1 with
   | true =>
     have hl := hlab k1
     obtain ⟨t, ht⟩ : ∃ t, (printB q.clause).1 = t := ⟨_, rfl⟩
     rw [ht] at s1
     cases k2 : decide (0 < q.life) with
     | true =>
       have hT : textQ q = (⟨#[97, 115, 115, 101, 114, 116, 32]⟩ : ByteArray) ++ q.label ++ (⟨#[32]⟩ : ByteArray) ++ ((⟨#[102, 111, 114, 32]⟩ : ByteArray) ++ numText q.life ++ (⟨#[32]⟩ : ByteArray)) ++ t := by unfold textQ; rw [k1, k2, ht]; rfl
       cases hd : decide (4096 < ((textQ q).size : Int)) with
       | true =>
         have hN2 : printQ q = (noStr, 2) := by rw [hN, hout, hd]; rfl
         rw [hT] at hd
         try rw [hT] at hN2
         repeat' (first | (with_reducible first | refine XG_split (fun hq => ?_) (fun hq => ?_) | refine MX1.of 4000 (by simp) ?_ | refine MX2.of 4000 (by simp) ?_ | refine And.intro ?_ ?_) | ((with_reducible first | refine Or.inl (And.intro (And.intro mixedP ?_) ?_) | refine Or.inl (And.intro mixedP ?_)); kernel_rfl) | simp only [go_sem,Nat.reduceEqDiff,Nat.reduceAdd,Nat.reduceMul,Nat.reduceLeDiff,Int.reduceBEq,Req.av,Req.ds,Lit.av,Lit.ds,Clause.av,Clause.ds,a1,a2,List.length_map,a0,hc,k1,k2,hd,ht])
         all_goals try simp only [f1, f2, f3, f4, f5, f6, ByteArray.size_append, Int.natCast_add, g1, g2, g3, g4, g5, g6]
         all_goals first | omega | exact ⟨hz1,hz2⟩ | exact ⟨hi1,hz1⟩ | exact ⟨hi2,hz2⟩ | exact ⟨hi3,rfl⟩ | exact hi3 | exact hi4 | exact hi1 | exact hi2 | exact hz1 | exact hz2 | exact ⟨hi3.1,hi3.2⟩ | skip
         all_goals first | omega | (unfold maxLen; omega) | (right; omega) | (left; simp; done) | (simp only [wk3,wkL2,wk2,wkL,wk1_d,wk1_own,wk1_nil,and_self]; done) | (intro i hi; simp only [upd]; (repeat' split); all_goals first | rfl | omega) | skip
         all_goals first | (rw [hN2]; exact wk3_eq rfl) | (exfalso; simp only [ByteArray.size_append, Int.natCast_add, f1, f2, f3, f4, f5, f6, g1, g2, g3, g4, g5, g6, decide_eq_true_eq, decide_eq_false_iff_not] at hd hq; omega) | trace_state
       | false =>
         have hN2 : printQ q = (textQ q, 0) := by rw [hN, hout, hd]; rfl
         rw [hT] at hd
         try rw [hT] at hN2
         repeat' (first | (with_reducible first | refine XG_split (fun hq => ?_) (fun hq => ?_) | refine MX1.of 4000 (by simp) ?_ | refine MX2.of 4000 (by simp) ?_ | refine And.intro ?_ ?_) | ((with_reducible first | refine Or.inl (And.intro (And.intro mixedP ?_) ?_) | refine Or.inl (And.intro mixedP ?_)); kernel_rfl) | simp only [go_sem,Nat.reduceEqDiff,Nat.reduceAdd,Nat.reduceMul,Nat.reduceLeDiff,Int.reduceBEq,Req.av,Req.ds,Lit.av,Lit.ds,Clause.av,Clause.ds,a1,a2,List.length_map,a0,hc,k1,k2,hd,ht])
         all_goals try simp only [f1, f2, f3, f4, f5, f6, ByteArray.size_append, Int.natCast_add, g1, g2, g3, g4, g5, g6]
         all_goals first | omega | exact ⟨hz1,hz2⟩ | exact ⟨hi1,hz1⟩ | exact ⟨hi2,hz2⟩ | exact ⟨hi3,rfl⟩ | exact hi3 | exact hi4 | exact hi1 | exact hi2 | exact hz1 | exact hz2 | exact ⟨hi3.1,hi3.2⟩ | skip
         all_goals first | omega | (unfold maxLen; omega) | (right; omega) | (left; simp; done) | (simp only [wk3,wkL2,wk2,wkL,wk1_d,wk1_own,wk1_nil,and_self]; done) | (intro i hi; simp only [upd]; (repeat' split); all_goals first | rfl | omega) | skip
         all_goals first | (rw [hN2]; exact wk3_eq rfl) | (exfalso; simp only [ByteArray.size_append, Int.natCast_add, f1, f2, f3, f4, f5, f6, g1, g2, g3, g4, g5, g6, decide_eq_true_eq, decide_eq_false_iff_not] at hd hq; omega) | trace_state
     | false =>
       have hT : textQ q = (⟨#[97, 115, 115, 101, 114, 116, 32]⟩ : ByteArray) ++ q.label ++ (⟨#[32]⟩ : ByteArray) ++ t := by unfold textQ; rw [k1, k2, ht]; rfl
       cases hd : decide (4096 < ((textQ q).size : Int)) with
       | true =>
         have hN2 : printQ q = (noStr, 2) := by rw [hN, hout, hd]; rfl
         rw [hT] at hd
         try rw [hT] at hN2
         repeat' (first | (with_reducible first | refine XG_split (fun hq => ?_) (fun hq => ?_) | refine MX1.of 4000 (by simp) ?_ | refine MX2.of 4000 (by simp) ?_ | refine And.intro ?_ ?_) | ((with_reducible first | refine Or.inl (And.intro (And.intro mixedP ?_) ?_) | refine Or.inl (And.intro mixedP ?_)); kernel_rfl) | simp only [go_sem,Nat.reduceEqDiff,Nat.reduceAdd,Nat.reduceMul,Nat.reduceLeDiff,Int.reduceBEq,Req.av,Req.ds,Lit.av,Lit.ds,Clause.av,Clause.ds,a1,a2,List.length_map,a0,hc,k1,k2,hd,ht])
         all_goals try simp only [f1, f2, f3, f4, f5, f6, ByteArray.size_append, Int.natCast_add, g1, g2, g3, g4, g5, g6]
         all_goals first | omega | exact ⟨hz1,hz2⟩ | exact ⟨hi1,hz1⟩ | exact ⟨hi2,hz2⟩ | exact ⟨hi3,rfl⟩ | exact hi3 | exact hi4 | exact hi1 | exact hi2 | exact hz1 | exact hz2 | exact ⟨hi3.1,hi3.2⟩ | skip
         all_goals first | omega | (unfold maxLen; omega) | (right; omega) | (left; simp; done) | (simp only [wk3,wkL2,wk2,wkL,wk1_d,wk1_own,wk1_nil,and_self]; done) | (intro i hi; simp only [upd]; (repeat' split); all_goals first | rfl | omega) | skip
         all_goals first | (rw [hN2]; exact wk3_eq rfl) | (exfalso; simp only [ByteArray.size_append, Int.natCast_add, f1, f2, f3, f4, f5, f6, g1, g2, g3, g4, g5, g6, decide_eq_true_eq, decide_eq_false_iff_not] at hd hq; omega) | trace_state
       | false =>
         have hN2 : printQ q = (textQ q, 0) := by rw [hN, hout, hd]; rfl
         rw [hT] at hd
         try rw [hT] at hN2
         repeat' (first | (with_reducible first | refine XG_split (fun hq => ?_) (fun hq => ?_) | refine MX1.of 4000 (by simp) ?_ | refine MX2.of 4000 (by simp) ?_ | refine And.intro ?_ ?_) | ((with_reducible first | refine Or.inl (And.intro (And.intro mixedP ?_) ?_) | refine Or.inl (And.intro mixedP ?_)); kernel_rfl) | simp only [go_sem,Nat.reduceEqDiff,Nat.reduceAdd,Nat.reduceMul,Nat.reduceLeDiff,Int.reduceBEq,Req.av,Req.ds,Lit.av,Lit.ds,Clause.av,Clause.ds,a1,a2,List.length_map,a0,hc,k1,k2,hd,ht])
         all_goals try simp only [f1, f2, f3, f4, f5, f6, ByteArray.size_append, Int.natCast_add, g1, g2, g3, g4, g5, g6]
         all_goals first | omega | exact ⟨hz1,hz2⟩ | exact ⟨hi1,hz1⟩ | exact ⟨hi2,hz2⟩ | exact ⟨hi3,rfl⟩ | exact hi3 | exact hi4 | exact hi1 | exact hi2 | exact hz1 | exact hz2 | exact ⟨hi3.1,hi3.2⟩ | skip
         all_goals first | omega | (unfold maxLen; omega) | (right; omega) | (left; simp; done) | (simp only [wk3,wkL2,wk2,wkL,wk1_d,wk1_own,wk1_nil,and_self]; done) | (intro i hi; simp only [upd]; (repeat' split); all_goals first | rfl | omega) | skip
         all_goals first | (rw [hN2]; exact wk3_eq rfl) | (exfalso; simp only [ByteArray.size_append, Int.natCast_add, f1, f2, f3, f4, f5, f6, g1, g2, g3, g4, g5, g6, decide_eq_true_eq, decide_eq_false_iff_not] at hd hq; omega) | trace_state
   | false =>
     cases k2 : q.kind == 2 with
     | true =>
       have hT : textQ q = (⟨#[114, 101, 118, 111, 107, 101, 32]⟩ : ByteArray) ++ numText q.no := by unfold textQ; rw [k1, k2]; rfl
       cases hd : decide (4096 < ((textQ q).size : Int)) with
       | true =>
         have hN2 : printQ q = (noStr, 2) := by rw [hN, hout, hd]; rfl
         rw [hT] at hd
         try rw [hT] at hN2
         repeat' (first | (with_reducible first | refine XG_split (fun hq => ?_) (fun hq => ?_) | refine MX1.of 4000 (by simp) ?_ | refine MX2.of 4000 (by simp) ?_ | refine And.intro ?_ ?_) | ((with_reducible first | refine Or.inl (And.intro (And.intro mixedP ?_) ?_) | refine Or.inl (And.intro mixedP ?_)); kernel_rfl) | simp only [go_sem,Nat.reduceEqDiff,Nat.reduceAdd,Nat.reduceMul,Nat.reduceLeDiff,Int.reduceBEq,Req.av,Req.ds,Lit.av,Lit.ds,Clause.av,Clause.ds,a1,a2,List.length_map,a0,hc,k1,k2,hd])
         all_goals try simp only [f1, f2, f3, f4, f5, f6, ByteArray.size_append, Int.natCast_add, g1, g2, g3, g4, g5, g6]
         all_goals first | omega | exact ⟨hz1,hz2⟩ | exact ⟨hi1,hz1⟩ | exact ⟨hi2,hz2⟩ | exact ⟨hi3,rfl⟩ | exact hi3 | exact hi4 | exact hi1 | exact hi2 | exact hz1 | exact hz2 | exact ⟨hi3.1,hi3.2⟩ | skip
         all_goals first | omega | (unfold maxLen; omega) | (right; omega) | (left; simp; done) | (simp only [wk3,wkL2,wk2,wkL,wk1_d,wk1_own,wk1_nil,and_self]; done) | (intro i hi; simp only [upd]; (repeat' split); all_goals first | rfl | omega) | skip
         all_goals first | (rw [hN2]; exact wk3_eq rfl) | (exfalso; simp only [ByteArray.size_append, Int.natCast_add, f1, f2, f3, f4, f5, f6, g1, g2, g3, g4, g5, g6, decide_eq_true_eq, decide_eq_false_iff_not] at hd hq; omega) | trace_state
       | false =>
         have hN2 : printQ q = (textQ q, 0) := by rw [hN, hout, hd]; rfl
         rw [hT] at hd
         try rw [hT] at hN2
         repeat' (first | (with_reducible first | refine XG_split (fun hq => ?_) (fun hq => ?_) | refine MX1.of 4000 (by simp) ?_ | refine MX2.of 4000 (by simp) ?_ | refine And.intro ?_ ?_) | ((with_reducible first | refine Or.inl (And.intro (And.intro mixedP ?_) ?_) | refine Or.inl (And.intro mixedP ?_)); kernel_rfl) | simp only [go_sem,Nat.reduceEqDiff,Nat.reduceAdd,Nat.reduceMul,Nat.reduceLeDiff,Int.reduceBEq,Req.av,Req.ds,Lit.av,Lit.ds,Clause.av,Clause.ds,a1,a2,List.length_map,a0,hc,k1,k2,hd])
         all_goals try simp only [f1, f2, f3, f4, f5, f6, ByteArray.size_append, Int.natCast_add, g1, g2, g3, g4, g5, g6]
         all_goals first | omega | exact ⟨hz1,hz2⟩ | exact ⟨hi1,hz1⟩ | exact ⟨hi2,hz2⟩ | exact ⟨hi3,rfl⟩ | exact hi3 | exact hi4 | exact hi1 | exact hi2 | exact hz1 | exact hz2 | exact ⟨hi3.1,hi3.2⟩ | skip
         all_goals first | omega | (unfold maxLen; omega) | (right; omega) | (left; simp; done) | (simp only [wk3,wkL2,wk2,wkL,wk1_d,wk1_own,wk1_nil,and_self]; done) | (intro i hi; simp only [upd]; (repeat' split); all_goals first | rfl | omega) | skip
         all_goals first | (rw [hN2]; exact wk3_eq rfl) | (exfalso; simp only [ByteArray.size_append, Int.natCast_add, f1, f2, f3, f4, f5, f6, g1, g2, g3, g4, g5, g6, decide_eq_true_eq, decide_eq_false_iff_not] at hd hq; omega) | trace_state
     | false =>
       cases k3 : q.kind == 3 with
       | true =>
         have k4 : (q.kind == 4) = false := by rw [beq_iff_eq] at k3; rw [k3]; rfl
         obtain ⟨t, ht⟩ : ∃ t, (printLitB q.lit).1 = t := ⟨_, rfl⟩
         rw [ht] at s2
         have hT : textQ q = (⟨#[113, 117, 101, 114, 121, 32]⟩ : ByteArray) ++ t := by unfold textQ; rw [k1, k2, k3, ht]; rfl
         cases hd : decide (4096 < ((textQ q).size : Int)) with
         | true =>
           have hN2 : printQ q = (noStr, 2) := by rw [hN, hout, hd]; rfl
           rw [hT] at hd
           try rw [hT] at hN2
           repeat' (first | (with_reducible first | refine XG_split (fun hq => ?_) (fun hq => ?_) | refine MX1.of 4000 (by simp) ?_ | refine MX2.of 4000 (by simp) ?_ | refine And.intro ?_ ?_) | ((with_reducible first | refine Or.inl (And.intro (And.intro mixedP ?_) ?_) | refine Or.inl (And.intro mixedP ?_)); kernel_rfl) | simp only [go_sem,Nat.reduceEqDiff,Nat.reduceAdd,Nat.reduceMul,Nat.reduceLeDiff,Int.reduceBEq,Req.av,Req.ds,Lit.av,Lit.ds,Clause.av,Clause.ds,a1,a2,List.length_map,a0,hc,k1,k2,k3,k4,hd,ht])
           all_goals try simp only [f1, f2, f3, f4, f5, f6, ByteArray.size_append, Int.natCast_add, g1, g2, g3, g4, g5, g6]
           all_goals first | omega | exact ⟨hz1,hz2⟩ | exact ⟨hi1,hz1⟩ | exact ⟨hi2,hz2⟩ | exact ⟨hi3,rfl⟩ | exact hi3 | exact hi4 | exact hi1 | exact hi2 | exact hz1 | exact hz2 | exact ⟨hi3.1,hi3.2⟩ | skip
           all_goals first | omega | (unfold maxLen; omega) | (right; omega) | (left; simp; done) | (simp only [wk3,wkL2,wk2,wkL,wk1_d,wk1_own,wk1_nil,and_self]; done) | (intro i hi; simp only [upd]; (repeat' split); all_goals first | rfl | omega) | skip
           all_goals first | (rw [hN2]; exact wk3_eq rfl) | (exfalso; simp only [ByteArray.size_append, Int.natCast_add, f1, f2, f3, f4, f5, f6, g1, g2, g3, g4, g5, g6, decide_eq_true_eq, decide_eq_false_iff_not] at hd hq; omega) | trace_state
         | false =>
           have hN2 : printQ q = (textQ q, 0) := by rw [hN, hout, hd]; rfl
           rw [hT] at hd
           try rw [hT] at hN2
           repeat' (first | (with_reducible first | refine XG_split (fun hq => ?_) (fun hq => ?_) | refine MX1.of 4000 (by simp) ?_ | refine MX2.of 4000 (by simp) ?_ | refine And.intro ?_ ?_) | ((with_reducible first | refine Or.inl (And.intro (And.intro mixedP ?_) ?_) | refine Or.inl (And.intro mixedP ?_)); kernel_rfl) | simp only [go_sem,Nat.reduceEqDiff,Nat.reduceAdd,Nat.reduceMul,Nat.reduceLeDiff,Int.reduceBEq,Req.av,Req.ds,Lit.av,Lit.ds,Clause.av,Clause.ds,a1,a2,List.length_map,a0,hc,k1,k2,k3,k4,hd,ht])
           all_goals try simp only [f1, f2, f3, f4, f5, f6, ByteArray.size_append, Int.natCast_add, g1, g2, g3, g4, g5, g6]
           all_goals first | omega | exact ⟨hz1,hz2⟩ | exact ⟨hi1,hz1⟩ | exact ⟨hi2,hz2⟩ | exact ⟨hi3,rfl⟩ | exact hi3 | exact hi4 | exact hi1 | exact hi2 | exact hz1 | exact hz2 | exact ⟨hi3.1,hi3.2⟩ | skip
           all_goals first | omega | (unfold maxLen; omega) | (right; omega) | (left; simp; done) | (simp only [wk3,wkL2,wk2,wkL,wk1_d,wk1_own,wk1_nil,and_self]; done) | (intro i hi; simp only [upd]; (repeat' split); all_goals first | rfl | omega) | skip
           all_goals first | (rw [hN2]; exact wk3_eq rfl) | (exfalso; simp only [ByteArray.size_append, Int.natCast_add, f1, f2, f3, f4, f5, f6, g1, g2, g3, g4, g5, g6, decide_eq_true_eq, decide_eq_false_iff_not] at hd hq; omega) | trace_state
       | false =>
         cases k4 : q.kind == 4 with
         | true =>
           obtain ⟨t, ht⟩ : ∃ t, (printLitB q.lit).1 = t := ⟨_, rfl⟩
           rw [ht] at s2
           have hT : textQ q = (⟨#[112, 114, 111, 118, 101, 32]⟩ : ByteArray) ++ t := by unfold textQ; rw [k1, k2, k3, k4, ht]; rfl
           cases hd : decide (4096 < ((textQ q).size : Int)) with
           | true =>
             have hN2 : printQ q = (noStr, 2) := by rw [hN, hout, hd]; rfl
             rw [hT] at hd
             try rw [hT] at hN2
             repeat' (first | (with_reducible first | refine XG_split (fun hq => ?_) (fun hq => ?_) | refine MX1.of 4000 (by simp) ?_ | refine MX2.of 4000 (by simp) ?_ | refine And.intro ?_ ?_) | ((with_reducible first | refine Or.inl (And.intro (And.intro mixedP ?_) ?_) | refine Or.inl (And.intro mixedP ?_)); kernel_rfl) | simp only [go_sem,Nat.reduceEqDiff,Nat.reduceAdd,Nat.reduceMul,Nat.reduceLeDiff,Int.reduceBEq,Req.av,Req.ds,Lit.av,Lit.ds,Clause.av,Clause.ds,a1,a2,List.length_map,a0,hc,k1,k2,k3,k4,hd,ht])
             all_goals try simp only [f1, f2, f3, f4, f5, f6, ByteArray.size_append, Int.natCast_add, g1, g2, g3, g4, g5, g6]
             all_goals first | omega | exact ⟨hz1,hz2⟩ | exact ⟨hi1,hz1⟩ | exact ⟨hi2,hz2⟩ | exact ⟨hi3,rfl⟩ | exact hi3 | exact hi4 | exact hi1 | exact hi2 | exact hz1 | exact hz2 | exact ⟨hi3.1,hi3.2⟩ | skip
             all_goals first | omega | (unfold maxLen; omega) | (right; omega) | (left; simp; done) | (simp only [wk3,wkL2,wk2,wkL,wk1_d,wk1_own,wk1_nil,and_self]; done) | (intro i hi; simp only [upd]; (repeat' split); all_goals first | rfl | omega) | skip
             all_goals first | (rw [hN2]; exact wk3_eq rfl) | (exfalso; simp only [ByteArray.size_append, Int.natCast_add, f1, f2, f3, f4, f5, f6, g1, g2, g3, g4, g5, g6, decide_eq_true_eq, decide_eq_false_iff_not] at hd hq; omega) | trace_state
           | false =>
             have hN2 : printQ q = (textQ q, 0) := by rw [hN, hout, hd]; rfl
             rw [hT] at hd
             try rw [hT] at hN2
             repeat' (first | (with_reducible first | refine XG_split (fun hq => ?_) (fun hq => ?_) | refine MX1.of 4000 (by simp) ?_ | refine MX2.of 4000 (by simp) ?_ | refine And.intro ?_ ?_) | ((with_reducible first | refine Or.inl (And.intro (And.intro mixedP ?_) ?_) | refine Or.inl (And.intro mixedP ?_)); kernel_rfl) | simp only [go_sem,Nat.reduceEqDiff,Nat.reduceAdd,Nat.reduceMul,Nat.reduceLeDiff,Int.reduceBEq,Req.av,Req.ds,Lit.av,Lit.ds,Clause.av,Clause.ds,a1,a2,List.length_map,a0,hc,k1,k2,k3,k4,hd,ht])
             all_goals try simp only [f1, f2, f3, f4, f5, f6, ByteArray.size_append, Int.natCast_add, g1, g2, g3, g4, g5, g6]
             all_goals first | omega | exact ⟨hz1,hz2⟩ | exact ⟨hi1,hz1⟩ | exact ⟨hi2,hz2⟩ | exact ⟨hi3,rfl⟩ | exact hi3 | exact hi4 | exact hi1 | exact hi2 | exact hz1 | exact hz2 | exact ⟨hi3.1,hi3.2⟩ | skip
             all_goals first | omega | (unfold maxLen; omega) | (right; omega) | (left; simp; done) | (simp only [wk3,wkL2,wk2,wkL,wk1_d,wk1_own,wk1_nil,and_self]; done) | (intro i hi; simp only [upd]; (repeat' split); all_goals first | rfl | omega) | skip
             all_goals first | (rw [hN2]; exact wk3_eq rfl) | (exfalso; simp only [ByteArray.size_append, Int.natCast_add, f1, f2, f3, f4, f5, f6, g1, g2, g3, g4, g5, g6, decide_eq_true_eq, decide_eq_false_iff_not] at hd hq; omega) | trace_state
         | false =>
           cases k5 : q.kind == 5 with
           | true =>
             have hT : textQ q = (⟨#[97, 117, 100, 105, 116]⟩ : ByteArray) := by unfold textQ; rw [k1, k2, k3, k4, k5]; rfl
             have hN2 : printQ q = ((⟨#[97, 117, 100, 105, 116]⟩ : ByteArray), 0) := by rw [hN, hT]; rfl
             repeat' (first | (with_reducible first | refine XG_split (fun hq => ?_) (fun hq => ?_) | refine MX1.of 4000 (by simp) ?_ | refine MX2.of 4000 (by simp) ?_ | refine And.intro ?_ ?_) | ((with_reducible first | refine Or.inl (And.intro (And.intro mixedP ?_) ?_) | refine Or.inl (And.intro mixedP ?_)); kernel_rfl) | simp only [go_sem,Nat.reduceEqDiff,Nat.reduceAdd,Nat.reduceMul,Nat.reduceLeDiff,Int.reduceBEq,Req.av,Req.ds,Lit.av,Lit.ds,Clause.av,Clause.ds,a1,a2,List.length_map,a0,hc,k1,k2,k3,k4,k5])
             all_goals first | omega | exact ⟨hz1,hz2⟩ | exact ⟨hi1,hz1⟩ | exact ⟨hi2,hz2⟩ | exact ⟨hi3,rfl⟩ | exact hi3 | exact hi4 | exact hi1 | exact hi2 | exact hz1 | exact hz2 | exact ⟨hi3.1,hi3.2⟩ | skip
             all_goals first | omega | (unfold maxLen; omega) | (right; omega) | (left; simp; done) | (simp only [wk3,wkL2,wk2,wkL,wk1_d,wk1_own,wk1_nil,and_self]; done) | (intro i hi; simp only [upd]; (repeat' split); all_goals first | rfl | omega) | skip
             all_goals first | (exfalso; simp only [f7, decide_eq_true_eq] at hq; omega) | (rw [hN2]; exact wk3_eq rfl) | trace_state
           | false =>
             exfalso
             unfold checkQ at hc
             rw [k1, k2, k3, k4, k5] at hc
             cases hc
end Go.Proofs.YtfhpecgknmfnnaaGreatDoor.M
end
section

end
section
namespace Go.Proofs.YtfhpecgknmfnnaaGreatDoor.M
open Go.R
section
variable {P : Program} {E : EqT P} {F : Ft}
theorem of_Y0 {r : AV} {f : FuncId} {fn : Func} {code : Code} (hf : P.funcs[f]? = some fn) (hbody : fn.body = some code) (hn : (fn.name == "runtime.NumGoroutine") = false)
 (rs : List ResultVar) {nt : Nat} (hrs : fn.results = rs.toArray) (hnt : fn.ntmps = nt) (hl : nt ≤ 900000) (hF : FtOk P F)
 (H : ∀ h n, HOk n h → X E F [] (FinP P rs n h r) 4000 (.code code) [] ⟨List.replicate nt .any, h, n, n⟩) : FsOk P f (.pure (g0 r)) := by
 refine FsOk.of_XP (E := E) _ hf hbody hn hrs hnt hF (fun _ _ _ => rfl) ?_
 intro args h n r' hp hS hok
 cases args with
 | nil =>
   cases hS
   exact ⟨[], trivial, ⟨hl, by simp⟩, H h n hok⟩
 | cons a l => cases hS
end
abbrev fixedS : Fs := .pure (g0 (vB true))
theorem tup_of {α : Type} {x : α × Int × Int} {p q : Int} (h : x.2 = (p, q)) : x = (x.1, p, q) := by
 obtain ⟨a, b, c⟩ := x
 cases h
 rfl
theorem fx1 : ∃ q, reqA (⟨#[97, 115, 115, 101, 114, 116, 32, 108, 111, 119, 32, 102, 111, 114, 32, 53, 32, 112, 40, 97, 41, 46]⟩ : ByteArray) = (q, 0, 0) ∧ q.life = 5 ∧ q.clause.head.pred = (⟨#[112]⟩ : ByteArray) ∧ printQ q = ((⟨#[97, 115, 115, 101, 114, 116, 32, 108, 111, 119, 32, 102, 111, 114, 32, 53, 32, 112, 40, 97, 41, 46]⟩ : ByteArray), 0) ∧ checkQ q = true ∧ reqI q ∧ szQ q := by
 refine ⟨_, tup_of (by decide +kernel), by decide +kernel, by decide +kernel, by decide +kernel, by decide +kernel, ?_, ?_⟩
 · unfold reqI clauseI litI tI i64
   decide +kernel
 · unfold szQ szC szL szT szS
   decide +kernel
theorem fx2 : ∃ q, reqA (⟨#[97, 115, 115, 101, 114, 116, 32, 108, 111, 119, 32, 102, 111, 114, 40, 88, 41, 32, 58, 45, 32, 112, 40, 88, 41, 46]⟩ : ByteArray) = (q, 0, 0) ∧ q.clause.head.pred = (⟨#[102, 111, 114]⟩ : ByteArray) := ⟨_, tup_of (by decide +kernel), by decide +kernel⟩
theorem fx3 : ∃ q, reqA (⟨#[113, 117, 101, 114, 121, 32, 112, 40, 88]⟩ : ByteArray) = (q, 9, 6) := ⟨_, tup_of (by decide +kernel)⟩
theorem fx4 : ∃ q, reqA (⟨#[114, 101, 118, 111, 107, 101, 32, 48]⟩ : ByteArray) = (q, 7, 6) := ⟨_, tup_of (by decide +kernel)⟩
theorem fx5 : ∃ q, reqA (⟨#[97, 117, 100, 105, 116, 32, 110, 111, 119]⟩ : ByteArray) = (q, 6, 6) := ⟨_, tup_of (by decide +kernel)⟩
set_option maxRecDepth 20000 in
set_option maxHeartbeats 8000000 in
theorem fixed_ok : FsOk Tryz.prog 7 fixedS := by
 refine of_Y0 (E := EqT.no _) (F := ((Ft.no.put 5 preqS).put 9 printQS).put 12 checkQS) Tryz.func7 rfl (by kernel_rfl) [.tmp 0] rfl Tryz.ntmps7 (by decide) ((((FtOk.no _).put preq_ok).put printQ_ok).put checkQ_ok) ?_
 intro h n hok
 obtain ⟨q1, h1, l1, d1, p1, k1, i1, z1⟩ := fx1
 obtain ⟨q2, h2, d2⟩ := fx2
 obtain ⟨q3, h3⟩ := fx3
 obtain ⟨q4, h4⟩ := fx4
 obtain ⟨q5, h5⟩ := fx5
 have a0 : (⟨q1.kind, q1.label, 5, ⟨⟨q1.clause.head.kind, ⟨q1.clause.head.who.var, ⟨q1.clause.head.who.val.sym, q1.clause.head.who.val.num⟩⟩, (⟨#[112]⟩ : ByteArray), q1.clause.head.args⟩, q1.clause.body⟩, q1.no, ⟨q1.lit.kind, ⟨q1.lit.who.var, ⟨q1.lit.who.val.sym, q1.lit.who.val.num⟩⟩, q1.lit.pred, q1.lit.args⟩⟩ : Req) = q1 := by
  rw [← l1, ← d1]
 repeat' (first | (with_reducible first | refine XG_split (fun hq => ?_) (fun hq => ?_) | refine MX1.of 4000 (by simp) ?_ | refine MX2.of 4000 (by simp) ?_ | refine And.intro ?_ ?_) | ((with_reducible first | refine Or.inl (And.intro (And.intro mixedP ?_) ?_) | refine Or.inl (And.intro mixedP ?_)); kernel_rfl) | simp only [go_sem,Nat.reduceEqDiff,Nat.reduceAdd,Nat.reduceMul,Nat.reduceLeDiff,Int.reduceBEq,Req.av,Req.ds,h1,l1,d1,p1,k1,a0,h2,d2,h3,h4,h5,beq_self_eq_true])
 all_goals first | exact ⟨i1, z1⟩ | exact z1 | (show (_ : Int) ≤ _; decide) | skip
 all_goals try refine agree.upd (by omega) ?_
 all_goals first | omega | (unfold maxLen; omega) | (right; omega) | (left; simp; done) | (simp only [wk3,wkL2,wk2,wkL,wk1_d,wk1_own,wk1_nil,and_self]; done) | (intro i hi; simp only [upd]; (repeat' split); all_goals first | rfl | omega) | skip
theorem clauseA_small (s : ByteArray) : smallC (clauseA s).1 := by
 unfold clauseA
 cases h : parseP s with
 | error q =>
   obtain ⟨p, x⟩ := q
   exact ⟨Nat.zero_le _, Nat.zero_le _, fun l hl => absurd hl List.not_mem_nil⟩
 | ok c =>
   obtain ⟨h1, h2, h3⟩ := parse_small h
   have h1 : c.body.length ≤ 6 := h1
   have h2 : c.head.args.length ≤ 4 := h2
   exact ⟨by show c.body.length ≤ _; omega, by show c.head.args.length ≤ _; omega, fun l hl => by have := h3 l hl; omega⟩
theorem litA_small (s : ByteArray) : (litA s).1.args.length ≤ 4611686018427387904 := by
 unfold litA
 cases h : parseLitP s with
 | error q =>
   obtain ⟨p, x⟩ := q
   exact Nat.zero_le _
 | ok r =>
   have h1 := parseLit_small h
   show r.2.2.length ≤ _
   omega
theorem z_small : smallC Clause.z := ⟨Nat.zero_le _, Nat.zero_le _, fun l hl => absurd hl List.not_mem_nil⟩
theorem zR_small : smallR Req.z := ⟨z_small, Nat.zero_le _⟩
theorem li_small (k : Int) (T : List Tok) (s : ByteArray) : smallR (liT k T s).1 := by
 unfold liT
 split
 · exact zR_small
 · exact ⟨z_small, litA_small _⟩
theorem as1_small (T : List Tok) (l s : ByteArray) (f p : Int) : smallR (asAns l f p (clauseA s)).1 := by
 unfold asAns
 split
 · exact zR_small
 · exact ⟨clauseA_small _, Nat.zero_le _⟩
theorem as_small (T : List Tok) (s : ByteArray) : smallR (asT T s).1 := by
 unfold asT
 split
 · exact zR_small
 · split
   · split
     · exact zR_small
     · exact as1_small T _ _ _ _
   · exact as1_small T _ _ _ _
theorem req_small (s : ByteArray) : smallR (reqA s).1 := by
 unfold reqA
 split
 · exact zR_small
 · unfold reqT
   split
   · exact as_small _ _
   · split
     · unfold reT
       split
       · exact zR_small
       · split
         · exact zR_small
         · exact ⟨z_small, Nat.zero_le _⟩
     · split
       · exact li_small _ _ _
       · split
         · exact li_small _ _ _
         · split
           · unfold auT
             split
             · exact zR_small
             · exact ⟨z_small, Nat.zero_le _⟩
           · exact zR_small
theorem eqB_self {α : Type} (a : α) : eqB a a = true := eqB_true rfl
end Go.Proofs.YtfhpecgknmfnnaaGreatDoor.M
end
section
namespace Go.R
open Go.RowKit Go.ChangeShapes Go.WideShapes
def Cx.fast (w : World) : Cx := ⟨fun b => if b < w.heap.size then none else some 0, fun _ => 0, fun _ => (none, 0)⟩
def AH.none : AH := fun _ => .no
theorem Wd.fast (w : World) (hG : ∀ p ∈ laidL, p.1 < w.heap.size ∧ p.2 w.heap[p.1]?) : Wd (Cx.fast w) AH.none 0 w :=
 ⟨fun i cs hi => (by cases hi), fun i m z cap hi _ => (by cases hi), fun i m z a cap hi _ => (by cases hi), fun i j b _ hi _ => (by cases hi), fun b hb => if_neg (Nat.not_lt.2 hb), fun _ _ => rfl, fun p hp => ⟨if_pos (hG p hp).1, (hG p hp).2⟩⟩
theorem calls_of_fs {P : Program} {f : FuncId} {pre : List AV → Prop} {g : List AV → Option AV} (hF : FsOk P f (.pureIf pre g)) {w : World} {vals : List Value} {args : List AV} {x : Value} (hl : vals.length = args.length)
 (hr : ∀ (j : Nat) v x, vals[j]? = some v → args[j]? = some x → ARep (Cx.fast w) AH.none w v x) (hp : pre args) (hg : g args = some (.d (.v x))) (hG : ∀ p ∈ laidL, p.1 < w.heap.size ∧ p.2 w.heap[p.1]?) :
 Calls P f vals.toArray w fun e w' => e = .returned x ∧ Below w.heap.size w w' := by
 obtain ⟨hent, hcalls⟩ := hF (Cx.fast w) AH.none 0 w vals args (fun r _ _ => r = .d (.v x)) (Wd.fast w hG) hl hr ⟨hp, by
  show onO ((g args).map fun r => (r, AH.none, 0)) _
  rw [hg]
  exact rfl⟩
 refine hcalls.mono fun e w' he => ?_
 obtain ⟨y, r, c', h', n', rfl, r1, r2, r3, r4, r5, rfl⟩ := he
 obtain rfl := cval_rep r4 rfl
 exact ⟨rfl, r2.os, r2.tape, r2.output, r2.size, fun b hb => (r2.all b (if_pos hb)).2⟩
theorem post_below {H : Type} {enc : TypeId × Value → H} {P : Program} {f : Func} {s : ChangeSpec} {apart fresh handsOn again : Bool} {W W' : World} {args : Array Value} {v : Value} {ds gs : List (DataW H)} {before pa pv : List MemPlace}
 (hW : DataW.Whole enc P f.params.toList s.vars apart W args.toList ds gs before)
 (hres : ∀ (b : Nat) (sp : Nat → Bool) (hd : Bool), DataW.TrodAll enc P W' b sp hd f.resultTypes.toList (v.resultList f.resultTypes.size) (s.fn H (ds ++ gs)).results [])
 (hargs : ∀ sp : Nat → Bool, (∀ p ∈ before, sp p.block = true) → DataW.TrodAll enc P W' 0 sp true f.params.toList args.toList (s.fn H (ds ++ gs)).args pa)
 (hvars : ∀ sp : Nat → Bool, (∀ p ∈ before, sp p.block = true) → DataW.TrodVars enc P W' sp s.vars (s.fn H (ds ++ gs)).vars pv)
 (hps : before = pa ++ pv) (hB : Below W.heap.size W W')
 (hok : ∀ (j : Nat) (t : TypeId) (r : Value), f.resultTypes[j]? = some t → (v.resultList f.resultTypes.size)[j]? = some r → Value.okWide P W' .any 0 t r) :
 s.post enc P f apart fresh handsOn again W args v W' := by
 have hlt : ∀ p ∈ before, p.block < W.heap.size := fun p hp => by simpa using hW.lt p hp
 have hold : ∀ p ∈ before, (fun b => decide (b < W.heap.size)) p.block = true := fun p hp => decide_eq_true (hlt p hp)
 refine ⟨ds, gs, before, [], pa, pv, hW, hres _ _ _, hargs _ hold, hvars _ hold, hB.frame _, fun _ => ?_⟩
 obtain ⟨_, _, _, _, _, hz, hn⟩ := hW
 refine ⟨hok, _, _, ([] ++ pa) ++ pv, ⟨[] ++ pa, pv, trodAll_append (hargs _ (fun _ _ => rfl)) (hres _ _ _), hvars _ (fun _ _ => rfl), rfl, ?_, ?_⟩, ?_⟩
 · intro b off hp
   have hp' : MemPlace.cell b off ∈ before := by rw [hps]; simpa using hp
   rw [hB.frozen (p := ⟨b, off, none⟩) (hlt _ hp')]
   exact hz b off hp'
 · intro ha
   have := hn ha
   rw [hps] at this
   simpa using this
 · intro p hp _
   rw [hps]
   simpa using hp
end Go.R
end
section
namespace Go.R
open Go.RowKit Go.ChangeShapes Go.WideShapes
open Go.Proofs.YtfhpecgknmfnnaaGreatDoor.Rows (uptoBulk uptoBulkAll)
structure Opens (P : Program) (t : TypeId) {α : Type} (c : α → List DV) (Q : α → Nat → Prop) : Prop where
 mono : ∀ a m n, Q a m → m ≤ n → Q a n
 get : ∀ {H : Type} (enc : TypeId × Value → H) (w : World) (held : Bool) (fuel : Nat) (cs : List Value) (x : DataW H × List MemPlace), DataW.trod enc P w 0 (fun _ => true) held fuel t cs = some x →
  ∃ a, cs.length = (c a).length ∧ Q a (uptoBulk x.1) ∧ ∀ (j : Nat) v y, cs[j]? = some v → (c a)[j]? = some y → DRep (Cx.fast w) w v y
structure OpensF (P : Program) (fs : List Field) (k : Nat) {α : Type} (c : α → List DV) (Q : α → Nat → Prop) : Prop where
 mono : ∀ a m n, Q a m → m ≤ n → Q a n
 get : ∀ {H : Type} (enc : TypeId × Value → H) (w : World) (held : Bool) (n : Nat) (cs : List Value) (xs : List (DataW H × List MemPlace)), xs.length = fs.length →
  (∀ (i : Nat) (f : Field), fs[i]? = some f → DataW.trod enc P w 0 (fun _ => true) held n f.type ((cs.drop f.offset).take (P.cellsOf f.type)) = xs[i]?) →
  ∃ a, Q a (uptoBulkAll (xs.map (·.1))) ∧ ∀ (j : Nat) v y, cs[k + j]? = some v → (c a)[j]? = some y → DRep (Cx.fast w) w v y
section
variable {P : Program} {t e : TypeId} {α β : Type}
theorem Opens.map {c : α → List DV} {Q : α → Nat → Prop} (h : Opens P t c Q) {c' : β → List DV} {Q' : β → Nat → Prop} (g : α → β) (hc : ∀ a, c' (g a) = c a) (hm : ∀ a m n, Q' a m → m ≤ n → Q' a n) (hQ : ∀ a n, Q a n → Q' (g a) n) : Opens P t c' Q' where
 mono := hm
 get := fun enc w held fuel cs x ht => by
  obtain ⟨a, h1, h2, h3⟩ := h.get enc w held fuel cs x ht
  exact ⟨g a, by rw [hc]; exact h1, hQ _ _ h2, fun j v y hv hy => h3 j v y hv (by rw [← hc]; exact hy)⟩
end
end Go.R
end
section

end
section
namespace Go.Proofs.YtfhpecgknmfnnaaGreatDoor.M
open Go.R Go.ChangeShapes Go.WideShapes Go.RowKit
open Go.Proofs.YtfhpecgknmfnnaaGreatDoor.Rows (uptoBulk uptoBulkAll)
section
variable {H : Type} {enc : TypeId × Value → H} {w : World} {base : Nat} {v v0 : Value} {d : DataW H} {ps : List MemPlace}
theorem args1 {x0 : AV} (h : ARep (Cx.fast w) AH.none w v0 x0) : ∀ (j : Nat) v x, [v0][j]? = some v → [x0][j]? = some x → ARep (Cx.fast w) AH.none w v x := by
 intro j v x hv hx
 cases j with
 | zero =>
   cases hv
   cases hx
   exact h
 | succ j => simp at hv
theorem gTab : Tryz.prog.globalNamed "internal/strconv.uint64pow10" = some 0 := by kernel_rfl
theorem vars_tail {P : Program} {W : World} {x : String × DataW Unit} {r : List (String × DataW Unit)} {ps : List MemPlace} (h : DataW.LaidVars P W (x :: r) ps) : ∃ q, DataW.LaidVars P W r q := by
 obtain ⟨n, d⟩ := x
 obtain ⟨_, _, _, _, _, q, _, _, _, _, h, _⟩ := h
 exact ⟨q, h⟩
theorem tab_of_vars {P : Program} {W : World} {name : String} {k : IntKind} {zs : List Int} {rest : List (String × DataW Unit)} {g : Nat} {t e : TypeId} {n : Nat} {ps : List MemPlace}
 (hg : P.globalNamed name = some g) (hty : (P.globals[g]?).map (·.type) = some t) (ht : P.underlying t = some (.array n e)) (he : P.underlying e = some (.int k)) (hce : P.cellsOf e = 1) (hct : P.cellsOf t = n)
 (h : DataW.LaidVars P W ((name, Lib.tabData k zs) :: rest) ps) : Lib.TabIs P W name k zs := by
 obtain ⟨g', t', cs, fuel, p, q, hg', ht', hvar, hd, _, _⟩ := h
 obtain rfl := Option.some.inj (hg.symm.trans hg')
 obtain rfl := Option.some.inj (hty.symm.trans ht')
 unfold Lib.TabIs
 rw [hvar, ← Lib.cells_of_tab ht he hce hct hd]
abbrev laidRow : List (String × DataW Unit) := [("math/bits.deBruijn32tab", Rows.laid_math_bits_deBruijn32tab), ("math/bits.deBruijn64tab", Rows.laid_math_bits_deBruijn64tab), ("internal/strconv.uint64pow10", Rows.laid_internal_strconv_uint64pow10)]
theorem table {W : World} (h : laidMet Tryz.prog laidRow W) : Lib.TabIs Tryz.prog W "internal/strconv.uint64pow10" .u64 Lib.pow10Tab := by
 obtain ⟨ps, h, _⟩ := h
 obtain ⟨p1, h⟩ := vars_tail h
 obtain ⟨p2, h⟩ := vars_tail h
 exact tab_of_vars (t := 155) (e := 130) (n := 20) (rest := []) gTab (by kernel_rfl) (by kernel_rfl) (by kernel_rfl) (by kernel_rfl) (by kernel_rfl) h
theorem laid_all {W : World} (h : laidMet Tryz.prog laidRow W) : ∀ p ∈ laidL, p.1 < W.heap.size ∧ p.2 W.heap[p.1]? := by
 intro p hp
 have hT := table h
 obtain rfl := List.mem_singleton.1 hp
 have hv : W.var? Tryz.prog "internal/strconv.uint64pow10" = some (Lib.pow10Tab.map fun z => Value.int .u64 z).toArray := hT
 unfold World.var? at hv
 rw [gTab] at hv
 refine ⟨?_, fun w hw => ?_⟩
 · show 0 < W.heap.size
   rcases Nat.eq_zero_or_pos W.heap.size with q | q
   · have : W.heap[0]? = none := Array.getElem?_eq_none (by omega)
     simp [this] at hv
   · exact q
 · show w.var? Tryz.prog "internal/strconv.uint64pow10" = _
   unfold World.var?
   rw [gTab]
   have hw : w.heap[0]? = W.heap[0]? := hw
   simp only [Option.bind_some] at hv ⊢
   rw [hw]
   exact hv
end
def fill (vs : Array Value) : Obj → Obj
 | .cells _ t f => .cells vs t f
 | o => o
def tab32 : List Int := [0, 1, 28, 2, 29, 14, 24, 3, 30, 22, 20, 15, 25, 17, 4, 8, 31, 27, 13, 23, 21, 19, 16, 7, 26, 12, 18, 6, 11, 5, 10, 9]
def tab64 : List Int := [0, 1, 56, 2, 57, 49, 28, 3, 61, 58, 42, 50, 38, 29, 17, 4, 62, 47, 59, 36, 45, 43, 51, 22, 53, 39, 33, 30, 24, 18, 12, 5, 63, 55, 48, 27, 60, 41, 37, 16, 46, 35, 44, 21, 52, 32, 23, 11, 54, 26, 40, 15, 34, 20, 31, 10, 25, 14, 19, 9, 13, 8, 7, 6]
def laidHeap (h : Array Obj) : Array Obj := ((h.modify 0 (fill (Lib.pow10Tab.map fun z => Value.int .u64 z).toArray)).modify 1 (fill (tab32.map fun z => Value.int .u8 z).toArray)).modify 2 (fill (tab64.map fun z => Value.int .u8 z).toArray)
end Go.Proofs.YtfhpecgknmfnnaaGreatDoor.M
end
section
namespace Go.Proofs.YtfhpecgknmfnnaaGreatDoor.M
open Go.R
abbrev lawStrS : Fs := .pureIf (g1p aStr fun s => (s.size : Int) ≤ 9223372036854775807) (g1 aStr fun _ => vB true)
set_option maxRecDepth 20000 in
set_option maxHeartbeats 8000000 in
theorem law3_ok : FsOk Tryz.prog 3 lawStrS := by
 refine of_Y1 (E := EqT.no _) (F := (((Ft.no.put 5 preqS).put 6 rparseS).put 7 fixedS).put 8 rsameS) vS (fun _ _ => aStr_le) Tryz.func3 rfl (by kernel_rfl) [.tmp 2] rfl Tryz.ntmps3 (by decide) (((((FtOk.no _).put preq_ok).put rparse_ok).put fixed_ok).put rsame_ok) ?_
 intro s h n hp hok
 have hs := req_small s
 obtain ⟨q, p, e, hA⟩ : ∃ q p e, reqA s = (q, p, e) := ⟨_, _, _, rfl⟩
 rw [hA] at hs
 have hs : smallR q := hs
 repeat' (first | (with_reducible first | refine XG_split (fun hq => ?_) (fun hq => ?_) | refine MX1.of 4000 (by simp) ?_ | refine MX2.of 4000 (by simp) ?_ | refine And.intro ?_ ?_) | ((with_reducible first | refine Or.inl (And.intro (And.intro mixedP ?_) ?_) | refine Or.inl (And.intro mixedP ?_)); kernel_rfl) | simp only [go_sem,Nat.reduceEqDiff,Nat.reduceAdd,Nat.reduceMul,Nat.reduceLeDiff,Int.reduceBEq,Req.av,Req.ds,hA,eqB_self,beq_self_eq_true])
 all_goals first | exact hp | exact hs | skip
 all_goals first | omega | (unfold maxLen; omega) | (right; omega) | (left; simp; done) | (simp only [wk3,wkL2,wk2,wkL,wk1_d,wk1_own,wk1_nil,and_self]; done) | (intro i hi; simp only [upd]; (repeat' split); all_goals first | rfl | omega) | skip
end Go.Proofs.YtfhpecgknmfnnaaGreatDoor.M
end
section
namespace Go.Proofs.YtfhpecgknmfnnaaGreatDoor.M
open Go.R Go.ChangeShapes Go.WideShapes Go.RowKit
section
variable {w : World} {v0 : Value}
theorem parses_calls (s : ByteArray) (h : s.size ≤ maxLen) (hL : laidMet Tryz.prog laidRow w) :
 Calls Tryz.prog 3 #[.string s] w fun e w' => e = .returned (.bool true) ∧ Below w.heap.size w w' :=
 calls_of_fs (vals := [.string s]) (args := [vS s]) law3_ok rfl (args1 (.d _ _ (.v _ rfl))) (by
  simp only [go_sem]
  unfold maxLen at h
  omega) (by simp only [go_sem]) (laid_all hL)
end
end Go.Proofs.YtfhpecgknmfnnaaGreatDoor.M
end
