import Derived.Test.YtfhpecgknmfnnaaDoorC4
import Derived.IntWalk
set_option linter.unusedVariables false
set_option linter.unusedSimpArgs false
section
namespace Go.R
open Go.RowKit
structure Sp where
 ok : List AV → AH → Nat → (AV → AH → Nat → Prop) → Prop
 tch : List AV → List Nat
abbrev Tb := FuncId → Sp
def Sp.no : Sp := ⟨fun _ _ _ _ => False, fun _ => []⟩
def Entered (P : Program) (f : FuncId) : Prop := ∀ (args : Array Value) (w : World), (callFunc f args).run P w = .ok (.enter f args) w
def SpOk (P : Program) (f : FuncId) (S : Sp) : Prop :=
 ∀ (c : Cx) (h : AH) (n : Nat) (w : World) (vals : List Value) (args : List AV) (K : AV → AH → Nat → Prop), Wd c h n w → vals.length = args.length →
   (∀ (j : Nat) v x, vals[j]? = some v → args[j]? = some x → ARep c h w v x) → S.ok args h n K →
   Entered P f ∧ Calls P f vals.toArray w fun e w' => ∃ v r c' h' n', e = .returned v ∧ Wd c' h' n' w' ∧ Ext c h w c' h' w' ∧ Fr (fun i => i ∈ S.tch args) c h w c' h' w' ∧ ARep c' h' w' v r ∧ n ≤ n' ∧ K r h' n'
def TbOk (P : Program) (C : Tb) : Prop := ∀ f, SpOk P f (C f)
def acall (C : Tb) (c : Call) (t : List AV) (h : AH) (n : Nat) (T : Nat → Prop) (K : AV → AH → Nat → Prop) : Prop := match c.callee with
 | .value f => match ev t f with
   | .fn (.func g) [] caps => (∀ i ∈ (C g).tch (c.args.toList.map (ev t) ++ caps), T i) ∧ (C g).ok (c.args.toList.map (ev t) ++ caps) h n K
   | _ => False
 | _ => False
def isApp : Builtin → Bool
 | .append => true
 | _ => false
def aop (P : Program) (C : Tb) (o : Oper) (t : List AV) (h : AH) (n : Nat) (T : Nat → Prop) (K : AV → AH → Nat → Prop) : Prop := match o.op with
 | .alloc _ => aeff P o t h n T K
 | .box _ _ => aeff P o t h n T K
 | .store _ _ _ => aeff P o t h n T K
 | .build _ _ => aeff P o t h n T K
 | .buildSlice _ _ _ => aeff P o t h n T K
 | .call c => match c.callee with
   | .builtin b => if isApp b then aeff P o t h n T K else ard P o t h fun r => K r h n
   | _ => acall C c t h n T K
 | _ => ard P o t h fun r => K r h n
def putT (t : List AV) (d : Option Tmp) (r : AV) : List AV := match d with
 | some i => t.set i r
 | none => t
def may (T : List Nat) (b : Nat) : Nat → Prop := fun i => i ∈ T ∨ b ≤ i
structure SI (T : List Nat) (c0 : Cx) (h0 : AH) (w0 : World) (c : Cx) (s : St) (a : Act) (w : World) : Prop where
 srep : SRep c s a w
 ext : Ext c0 h0 w0 c s.h w
 fr : Fr (fun i => i ∈ T) c0 h0 w0 c s.h w
 new0 : ∀ i, s.b ≤ i → h0 i = .no
 le : s.b ≤ s.n
section
variable {P : Program} {C : Tb} {c c0 c' : Cx} {s : St} {a : Act} {w w0 w' : World} {h h0 h' : AH} {n n' : Nat} {T : List Nat}
theorem put_size (a : Act) (d : Option Tmp) (v : Value) : (a.put d v).tmps.size = a.tmps.size := by cases d <;> simp [Act.put]
theorem put_defers (a : Act) (d : Option Tmp) (v : Value) : (a.put d v).defers = a.defers := by cases d <;> rfl
theorem putT_length (t : List AV) (d : Option Tmp) (r : AV) : (putT t d r).length = t.length := by cases d <;> simp [putT]
theorem put_rep (hs : ∀ (i : Nat) v x, a.tmps[i]? = some v → s.t[i]? = some x → ARep c h w v x) {t : List AV} (ht : t = s.t) {d : Option Tmp} {v : Value} {r : AV} (hr : ARep c h w v r) :
 ∀ (i : Nat) u x, (a.put d v).tmps[i]? = some u → (putT t d r)[i]? = some x → ARep c h w u x := by
 subst ht
 intro i u x hu hx
 cases d with
 | none => exact hs i u x hu hx
 | some d =>
   simp only [Act.put, putT] at hu hx
   by_cases e : i = d
   · subst e
     have h1 : i < a.tmps.size := by have := (Array.getElem?_eq_some_iff.1 hu).1; simpa using this
     have h2 : i < s.t.length := by have := (List.getElem?_eq_some_iff.1 hx).1; simpa using this
     rw [Array.getElem?_setIfInBounds_self_of_lt h1] at hu
     rw [List.getElem?_set_self h2] at hx
     cases hu
     cases hx
     exact hr
   · rw [Array.getElem?_setIfInBounds_ne (Ne.symm e)] at hu
     rw [List.getElem?_set_ne (Ne.symm e)] at hx
     exact hs i u x hu hx
theorem SI.next (I : SI T c0 h0 w0 c s a w) {v : Value} {r : AV} {d : Option Tmp} (hw : Wd c' h' n' w') (q : Ext c s.h w c' h' w') (f : Fr (may T s.b) c s.h w c' h' w') (hr : ARep c' h' w' v r) (hn : s.n ≤ n') :
 SI T c0 h0 w0 c' ⟨putT s.t d r, h', s.b, n'⟩ (a.put d v) w' where
 srep := ⟨by rw [put_size, I.srep.size, putT_length], put_rep (s := s) (fun i v x hv hx => (I.srep.tmp i v x hv hx).to q) rfl hr, by rw [put_defers]; exact I.srep.defers, hw⟩
 ext := I.ext.trans q
 fr := by
  refine ⟨fun b hb hne => (f.far b (Nat.lt_of_lt_of_le hb I.ext.size) (fun i hi e => ?_)).trans (I.fr.far b hb hne), fun i b e hb => I.fr.old i b (f.old i b e (Nat.lt_of_lt_of_le hb I.ext.size)) hb⟩
  have := I.fr.old i b e hb
  rcases hi with hi | hi
  · exact hne i hi this
  · rw [I.new0 i hi] at this; cases this
 new0 := I.new0
 le := Nat.le_trans I.le hn
theorem SI.drew (I : SI T c0 h0 w0 c s a w) : SI T c0 h0 w0 c s a { w with drawn := w.drawn + 1 } := by
 obtain ⟨h1, h2⟩ := I.srep.wd.drewN 1
 exact ⟨⟨I.srep.size, fun i v x hv hx => (I.srep.tmp i v x hv hx).to h2, I.srep.defers, h1⟩, I.ext.trans h2, ⟨fun b hb hne => I.fr.far b hb hne, I.fr.old⟩, I.new0, I.le⟩
def Go1 (T : List Nat) (c0 : Cx) (h0 : AH) (w0 : World) (next : Act → World → Prop) (a : Act) (d : Option Tmp) (s : St) (K : AV → AH → Nat → Prop) : Prop :=
 ∀ c' v r h' n' w', K r h' n' → SI T c0 h0 w0 c' ⟨putT s.t d r, h', s.b, n'⟩ (a.put d v) w' → next (a.put d v) w'
theorem ard_wp (I : SI T c0 h0 w0 c s a w) {o : Oper} {K : AV → AH → Nat → Prop} {next : Act → World → Prop} {Q : Exit → Act → World → Prop} (hK : ard P o s.t s.h fun r => K r s.h s.n) (hn : Go1 T c0 h0 w0 next a o.dst s K) : o.wp P a w next Q := by
 obtain ⟨v, r, hv, hr, hK⟩ := ard_sound I.srep hK
 unfold Oper.wp
 have hv := hv w (Same.refl w)
 simp only at hv
 rw [hv]
 exact hn c v r s.h s.n w hK (I.next I.srep.wd (Ext.refl _ _ _) (Fr.refl _ _ _ _) hr (Nat.le_refl _))
theorem aeff_wp (I : SI T c0 h0 w0 c s a w) {o : Oper} {K : AV → AH → Nat → Prop} {next : Act → World → Prop} {Q : Exit → Act → World → Prop} (hK : aeff P o s.t s.h s.n (may T s.b) K) (hn : Go1 T c0 h0 w0 next a o.dst s K) : o.wp P a w next Q := by
 obtain ⟨v, r, c', h', n', w', hv, h1, h2, h3, h4, h5, h6⟩ := aeff_sound I.srep rfl hK
 have := hn c' v r h' n' w' h6 (I.next h1 h2 h3 h4 h5)
 unfold Oper.wp
 rcases hv with hv | ⟨hv, rfl⟩
 · rw [hv]; exact this
 · rw [hv]; exact this
theorem acall_wp (hC : TbOk P C) (I : SI T c0 h0 w0 c s a w) {o : Oper} {cl : Call} (ho : o.op = .call cl) {K : AV → AH → Nat → Prop} {next : Act → World → Prop} {Q : Exit → Act → World → Prop} (hK : acall C cl s.t s.h s.n (may T s.b) K) (hn : Go1 T c0 h0 w0 next a o.dst s K) : o.wp P a w next Q := by
 unfold acall at hK
 split at hK
 · rename_i f hc
   split at hK
   · rename_i g caps hf
     obtain ⟨hT, hK⟩ := hK
     have hfv := ev_rep I.srep f
     rw [hf] at hfv
     generalize hv : a.eval f = v at hfv
     cases hfv with
     | fn _ vf vc af ac h1 h2 h3 h4 =>
       have hvf : vf = [] := List.eq_nil_of_length_eq_zero (by simpa using h1)
       subst hvf
       have hargs := args_rep I.srep cl.args.toList
       have hall : ∀ (j : Nat) v x, (cl.args.toList.map a.eval ++ vc)[j]? = some v → (cl.args.toList.map (ev s.t) ++ caps)[j]? = some x → ARep c s.h w v x := by
        intro j v x hj hx
        by_cases hlt : j < cl.args.toList.length
        · rw [List.getElem?_append_left (by simpa using hlt)] at hj hx
          exact hargs j v x hj hx
        · rw [List.getElem?_append_right (by simp at hlt ⊢; omega)] at hj hx
          simp only [List.length_map] at hj hx
          exact h4 _ v x hj hx
       obtain ⟨hent, hcalls⟩ := hC g c s.h s.n w (cl.args.toList.map a.eval ++ vc) (cl.args.toList.map (ev s.t) ++ caps) K I.srep.wd (by simp [h3]) hall hK
       have hrun : (execOp a.eval o).run P w = .ok (.enter g (cl.args.toList.map a.eval ++ vc).toArray) w := by
        have e1 : cl.args.map a.eval ++ vc.toArray = (cl.args.toList.map a.eval ++ vc).toArray := by rw [map_arr]; simp
        have e2 : ([] : List Value).toArray ++ cl.args.map a.eval ++ vc.toArray = (cl.args.toList.map a.eval ++ vc).toArray := by rw [← e1]; simp
        simp only [execOp, ho, resolve, hc, hv, Deferred.ofValue, Sem.run_bind, Sem.run_pure, Result.andThen_ok, invoke]
        rw [e2]
        exact hent _ _
       unfold Oper.wp
       rw [hrun, Oper.upon_enter]
       refine hcalls.mono fun e w' he => ?_
       obtain ⟨v, r, c', h', n', rfl, r1, r2, r3, r4, r5, r6⟩ := he
       exact hn c' v r h' n' w' r6 (I.next r1 r2 (r3.mono fun i hi => .inl (hT i hi)) r4 r5)
   · exact hK.elim
 · exact hK.elim
theorem aop_wp (hC : TbOk P C) (I : SI T c0 h0 w0 c s a w) {o : Oper} {K : AV → AH → Nat → Prop} {next : Act → World → Prop} {Q : Exit → Act → World → Prop} (hK : aop P C o s.t s.h s.n (may T s.b) K) (hn : Go1 T c0 h0 w0 next a o.dst s K) : o.wp P a w next Q := by
 unfold aop at hK
 cases hop : o.op with
 | call cl =>
   simp only [hop] at hK
   cases hc : cl.callee with
   | builtin b =>
     simp only [hc] at hK
     split at hK
     · exact aeff_wp I hK hn
     · exact ard_wp I hK hn
   | value f => simp only [hc] at hK; exact acall_wp hC I hop hK hn
   | invoke r m => simp only [hc] at hK; exact acall_wp hC I hop hK hn
 | alloc _ => simp only [hop] at hK; exact aeff_wp I hK hn
 | box _ _ => simp only [hop] at hK; exact aeff_wp I hK hn
 | store _ _ _ => simp only [hop] at hK; exact aeff_wp I hK hn
 | build _ _ => simp only [hop] at hK; exact aeff_wp I hK hn
 | buildSlice _ _ _ => simp only [hop] at hK; exact aeff_wp I hK hn
 | _ => simp only [hop] at hK; exact ard_wp I hK hn
end
end Go.R
namespace Go.R
open Go.RowKit
section
variable {P : Program} {C : Tb} {c c0 c' : Cx} {s s1 s2 : St} {a : Act} {w w0 w' : World} {h h0 h' : AH} {n n' : Nat} {T : List Nat}
theorem SI.setT (I : SI T c0 h0 w0 c s a w) {d : Nat} {r : AV} (hr : ∀ v, a.tmps[d]? = some v → ARep c s.h w v r) : SI T c0 h0 w0 c { s with t := s.t.set d r } a w where
 srep := ⟨by simpa using I.srep.size, fun i v x hv hx => by
  simp only at hx
  by_cases e : i = d
  · subst e
    have h2 : i < s.t.length := by have := (List.getElem?_eq_some_iff.1 hx).1; simpa using this
    rw [List.getElem?_set_self h2] at hx
    cases hx
    exact hr v hv
  · rw [List.getElem?_set_ne (Ne.symm e)] at hx
    exact I.srep.tmp i v x hv hx, I.srep.defers, I.srep.wd⟩
 ext := I.ext
 fr := I.fr
 new0 := I.new0
 le := I.le
theorem SI.undef (I : SI T c0 h0 w0 c s a w) {d : Nat} (hd : s.t.getD d .any = .tup []) : a.tmps[d]? = some undef := by
 have hl : d < s.t.length := Nat.lt_of_not_le fun hle => by
  rw [List.getD_eq_getElem?_getD, List.getElem?_eq_none hle] at hd
  cases hd
 have hs := List.getElem?_eq_getElem hl
 rw [List.getD_eq_getElem?_getD, hs, Option.getD_some] at hd
 have hl2 : d < a.tmps.size := by rw [I.srep.size]; exact hl
 have ha := Array.getElem?_eq_getElem hl2
 have := I.srep.tmp d _ _ ha hs
 rw [hd] at this
 generalize a.tmps[d] = v at this ha
 cases this with
 | tup vs cs h1 h2 =>
   have : vs = [] := List.eq_nil_of_length_eq_zero (by simpa using h1)
   subst this
   exact ha
theorem SI.bool (I : SI T c0 h0 w0 c s a w) {d : Nat} {q : Bool} (hd : s.t.getD d .any = .d (.v (.bool q))) : a.tmps[d]? = some (.bool q) := by
 have hl : d < s.t.length := Nat.lt_of_not_le fun hle => by
  rw [List.getD_eq_getElem?_getD, List.getElem?_eq_none hle] at hd
  cases hd
 have hs := List.getElem?_eq_getElem hl
 rw [List.getD_eq_getElem?_getD, hs, Option.getD_some] at hd
 have hl2 : d < a.tmps.size := by rw [I.srep.size]; exact hl
 have ha := Array.getElem?_eq_getElem hl2
 have := I.srep.tmp d _ _ ha hs
 rw [hd] at this
 rw [ha, cval_rep this rfl]
def acallQ (C : Tb) (c : Call) (t : List AV) (h : AH) (n : Nat) (K : AV → Prop) : Prop := match c.callee with
 | .value f => match ev t f with
   | .fn (.func g) [] caps => (C g).tch (c.args.toList.map (ev t) ++ caps) = [] ∧ ∃ x, (C g).ok (c.args.toList.map (ev t) ++ caps) h n (fun r _ _ => r = .d (.v x)) ∧ K (.d (.v x))
   | _ => False
 | _ => False
def aopQ (P : Program) (C : Tb) (o : Oper) (t : List AV) (h : AH) (n : Nat) (K : AV → Prop) : Prop := match o.op with
 | .call c => match c.callee with
   | .builtin b => ard P o t h K
   | _ => acallQ C c t h n K
 | _ => ard P o t h K
theorem SI.same (I : SI T c0 h0 w0 c s a w) (hb : Below w.heap.size w w') : SI T c0 h0 w0 c s a w' := by
 obtain ⟨h1, h2⟩ := wd_same I.srep.wd hb
 exact ⟨⟨I.srep.size, fun i v x hv hx => (I.srep.tmp i v x hv hx).to h2, I.srep.defers, h1⟩, I.ext.trans h2,
  ⟨fun b hbl hne => (hb.block b (Nat.lt_of_lt_of_le hbl I.ext.size)).trans (I.fr.far b hbl hne), I.fr.old⟩, I.new0, I.le⟩
theorem below_same {w1 : World} (hb : Below w.heap.size w w1) : Same w w1 := fun b h => hb.block b h
theorem aopQ_quiet (hC : TbOk P C) (I : SI T c0 h0 w0 c s a w) {o : Oper} {K : AV → Prop} {next : Act → Prop} (hK : aopQ P C o s.t s.h s.n K) (hn : ∀ v r, K r → SI T c0 h0 w0 c { s with t := putT s.t o.dst r } (a.put o.dst v) w → next (a.put o.dst v)) :
 o.quiet P a (fun w' => Below w.heap.size w w') next := by
 have rd : ard P o s.t s.h K → o.quiet P a (fun w' => Below w.heap.size w w') next := by
  intro hK
  obtain ⟨v, r, hv, hr, hK⟩ := ard_sound I.srep hK
  refine ⟨v, fun w' hw' => ?_, hn v r hK (I.next I.srep.wd (Ext.refl _ _ _) (Fr.refl _ _ _ _) hr (Nat.le_refl _))⟩
  have := hv w' (below_same hw')
  simp only at this
  simp [Oper.quietAt, this, Oper.quietUpon]
 unfold aopQ at hK
 cases hop : o.op with
 | call cl =>
   simp only [hop] at hK
   have cq : acallQ C cl s.t s.h s.n K → o.quiet P a (fun w' => Below w.heap.size w w') next := by
    intro hK
    unfold acallQ at hK
    split at hK
    · rename_i f hc
      split at hK
      · rename_i g caps hf
        obtain ⟨hT, x, hx, hK⟩ := hK
        have hfv := ev_rep I.srep f
        rw [hf] at hfv
        generalize hv : a.eval f = v at hfv
        cases hfv with
        | fn _ vf vc af ac h1 h2 h3 h4 =>
          have hvf : vf = [] := List.eq_nil_of_length_eq_zero (by simpa using h1)
          subst hvf
          have hargs := args_rep I.srep cl.args.toList
          have hall : ∀ (j : Nat) v x, (cl.args.toList.map a.eval ++ vc)[j]? = some v → (cl.args.toList.map (ev s.t) ++ caps)[j]? = some x → ARep c s.h w v x := by
           intro j v x hj hx
           by_cases hlt : j < cl.args.toList.length
           · rw [List.getElem?_append_left (by simpa using hlt)] at hj hx
             exact hargs j v x hj hx
           · rw [List.getElem?_append_right (by simp at hlt ⊢; omega)] at hj hx
             simp only [List.length_map] at hj hx
             exact h4 _ v x hj hx
          have at_ : ∀ w', Below w.heap.size w w' → Entered P g ∧ Calls P g (cl.args.toList.map a.eval ++ vc).toArray w' fun e w'' => e = .returned x ∧ Below w.heap.size w w'' ∧ x.oneCell' = true := by
           intro w' hw'
           obtain ⟨g1, g2⟩ := wd_same I.srep.wd hw'
           obtain ⟨hent, hcalls⟩ := hC g c s.h s.n w' (cl.args.toList.map a.eval ++ vc) (cl.args.toList.map (ev s.t) ++ caps) _ g1 (by simp [h3]) (fun j v x hj hx => (hall j v x hj hx).to g2) hx
           refine ⟨hent, hcalls.mono fun e w'' he => ?_⟩
           obtain ⟨v, r, c', h', n', rfl, r1, r2, r3, r4, r5, rfl⟩ := he
           have hvx : v = x := cval_rep r4 rfl
           subst hvx
           refine ⟨rfl, hw'.trans ⟨r2.os, r2.tape, r2.output, r2.size, fun k hk => r3.far k (Nat.lt_of_lt_of_le hk hw'.size) (fun i hi => by rw [hT] at hi; cases hi)⟩, ?_⟩
           cases r4 with
           | d _ _ hd => exact hd.one
          have hone : x.oneCell' = true := by
           obtain ⟨_, hcalls⟩ := at_ w (Below.refl _ _)
           obtain ⟨e, w', fr, hR, _⟩ := hcalls []
           exact hR.2.2
          refine ⟨x, fun w' hw' => ?_, hn x _ hK (I.next I.srep.wd (Ext.refl _ _ _) (Fr.refl _ _ _ _) (.d _ _ (.v _ hone)) (Nat.le_refl _))⟩
          obtain ⟨hent, hcalls⟩ := at_ w' hw'
          have hrun : (execOp a.eval o).run P w' = .ok (.enter g (cl.args.toList.map a.eval ++ vc).toArray) w' := by
           have e1 : cl.args.map a.eval ++ vc.toArray = (cl.args.toList.map a.eval ++ vc).toArray := by rw [map_arr]; simp
           have e2 : ([] : List Value).toArray ++ cl.args.map a.eval ++ vc.toArray = (cl.args.toList.map a.eval ++ vc).toArray := by rw [← e1]; simp
           simp only [execOp, hop, resolve, hc, hv, Deferred.ofValue, Sem.run_bind, Sem.run_pure, Result.andThen_ok, invoke]
           rw [e2]
           exact hent _ _
          simp only [Oper.quietAt, hrun, Oper.quietUpon, true_and]
          exact hcalls.mono fun e w'' he => ⟨he.1, he.2.1⟩
      · exact hK.elim
    · exact hK.elim
   cases hc : cl.callee with
   | builtin b => simp only [hc] at hK; exact rd hK
   | value f => simp only [hc] at hK; exact cq hK
   | invoke r m => simp only [hc] at hK; exact cq hK
 | _ => simp only [hop] at hK; exact rd hK
end
end Go.R
namespace Go.R
open Go.RowKit
def AW (P : Program) (C : Tb) (T : List Nat) (code : Code) (Q : Exit → St → Prop) (s : St) : Prop :=
 ∀ (c0 : Cx) (h0 : AH) (w0 : World) (c : Cx) (a : Act) (w : World), TbOk P C → SI T c0 h0 w0 c s a w →
   code.wp P (fun e a' w' => ∃ c' s', SI T c0 h0 w0 c' s' a' w' ∧ s'.b = s.b ∧ s'.t.length = s.t.length ∧ Q e s') a w
def setC (t : List AV) (c : Operand) (q : Bool) : List AV := match c with
 | .tmp d => t.set d (.d (.v (.bool q)))
 | _ => t
section
variable {P : Program} {C : Tb} {c c0 c' : Cx} {s s1 s2 : St} {a : Act} {w w0 w' : World} {h h0 h' : AH} {n n' : Nat} {T : List Nat} {Q Q' : Exit → St → Prop}
theorem AW.mono {x : Code} (A : AW P C T x Q s) (hQ : ∀ e s', s'.b = s.b → s'.t.length = s.t.length → Q e s' → Q' e s') : AW P C T x Q' s :=
 fun c0 h0 w0 c a w hC I => wp_mono (A c0 h0 w0 c a w hC I) fun e a' w' ⟨c', s', I', hb, hl, q⟩ => ⟨c', s', I', hb, hl, hQ e s' hb hl q⟩
theorem AW.skip (h : Q .normal s) : AW P C T .skip Q s := fun _ _ _ c _ _ _ I => wp_skip ⟨c, s, I, rfl, rfl, h⟩
theorem AW.exit {id : Nat} (h : Q (.exit id) s) : AW P C T (.exit id) Q s := fun _ _ _ c _ _ _ I => wp_exit ⟨c, s, I, rfl, rfl, h⟩
theorem AW.ret (h : Q .ret s) : AW P C T .ret Q s := fun _ _ _ c _ _ _ I => wp_ret ⟨c, s, I, rfl, rfl, h⟩
theorem AW.seq {x y : Code} (h : AW P C T x (fun e s' => match e with
 | .normal => AW P C T y Q s'
 | e => Q e s') s) : AW P C T (.seq x y) Q s := by
 intro c0 h0 w0 c a w hC I
 refine wp_seq (wp_mono (h c0 h0 w0 c a w hC I) fun e a' w' ⟨c', s', I', hb, hl, q⟩ => ?_)
 cases e with
 | normal =>
   refine wp_mono (q c0 h0 w0 c' a' w' hC I') fun e a2 w2 ⟨c2, s2, I2, hb2, hl2, q2⟩ => ⟨c2, s2, I2, hb2.trans hb, hl2.trans hl, q2⟩
 | _ => exact ⟨c', s', I', hb, hl, q⟩
theorem AW.cond {x y : Code} {p : Operand} {q : Bool} (hp : ev s.t p = .d (.v (.bool q))) (h1 : q = true → AW P C T x Q { s with t := setC s.t p true }) (h2 : q = false → AW P C T y Q { s with t := setC s.t p false }) : AW P C T (.cond p x y) Q s := by
 intro c0 h0 w0 c a w hC I
 have hv := ev_rep I.srep p
 rw [hp] at hv
 have hv := cval_rep hv rfl
 have I1 : SI T c0 h0 w0 c { s with t := setC s.t p q } a w := by
  cases p with
  | tmp d =>
    refine I.setT fun v hv' => ?_
    have : a.eval (.tmp d) = v := by simp [Act.eval, hv']
    rw [← this, hv]
    exact .d _ _ (.v _ rfl)
  | _ => exact I
 have hl : ({ s with t := setC s.t p q } : St).t.length = s.t.length := by cases p <;> simp [setC]
 refine wp_cond hv ?_
 cases q
 · refine wp_mono (h2 rfl c0 h0 w0 c a w hC I1) fun e a' w' ⟨c', s', I', hb, hl', r⟩ => ⟨c', s', I', hb, hl'.trans hl, r⟩
 · refine wp_mono (h1 rfl c0 h0 w0 c a w hC I1) fun e a' w' ⟨c', s', I', hb, hl', r⟩ => ⟨c', s', I', hb, hl'.trans hl, r⟩
theorem AW.block {id : Nat} {x : Code} (h : AW P C T x (fun e s' => match e with
 | .exit i => if i = id then Q .normal s' else Q (.exit i) s'
 | e => Q e s') s) : AW P C T (.block id x) Q s := by
 intro c0 h0 w0 c a w hC I
 refine wp_block (wp_mono (h c0 h0 w0 c a w hC I) fun e a' w' ⟨c', s', I', hb, hl, q⟩ => ?_)
 cases e with
 | exit i =>
   simp only [Exit.inBlock] at q ⊢
   by_cases hi : i = id
   · rw [if_pos hi] at q ⊢; exact ⟨c', s', I', hb, hl, q⟩
   · rw [if_neg hi] at q ⊢; exact ⟨c', s', I', hb, hl, q⟩
 | _ => exact ⟨c', s', I', hb, hl, q⟩
def Wk (T : List Nat) (s s1 : St) : Prop := s1.b = s.b ∧ s1.t.length = s.t.length ∧ ∀ c0 h0 w0 c a w, SI T c0 h0 w0 c s a w → ∃ c', SI T c0 h0 w0 c' s1 a w
theorem AW.wk {x : Code} (k : Wk T s s1) (A : AW P C T x Q s1) : AW P C T x Q s := by
 intro c0 h0 w0 c a w hC I
 obtain ⟨c', I'⟩ := k.2.2 c0 h0 w0 c a w I
 exact wp_mono (A c0 h0 w0 c' a w hC I') fun e a' w' ⟨c2, s2, I2, hb, hl, q⟩ => ⟨c2, s2, I2, hb.trans k.1, hl.trans k.2.1, q⟩
theorem AW.loop {x : Code} (I : Nat → St → Prop) (m : Nat) (hk : ∃ s1, Wk T s s1 ∧ I m s1) (round : ∀ m s', I m s' → s'.b = s.b → s'.t.length = s.t.length → AW P C T x (fun e s2 => match e with
 | .normal => ∃ s3 m', Wk T s2 s3 ∧ I m' s3 ∧ m' < m
 | e => Q e s2) s') : AW P C T (.loop x) Q s := by
 intro c0 h0 w0 c a w hC SI0
 obtain ⟨s1, k, hI⟩ := hk
 obtain ⟨c1, SI1⟩ := k.2.2 c0 h0 w0 c a w SI0
 intro b kk cs
 have key : ∀ m (s1 : St) c1 a w, I m s1 → s1.b = s.b → s1.t.length = s.t.length → SI T c0 h0 w0 c1 s1 a w →
  ∃ e a' w', (∃ c' s', SI T c0 h0 w0 c' s' a' w' ∧ s'.b = s.b ∧ s'.t.length = s.t.length ∧ Q e s') ∧ Arrives P (lone (b.at a (.code x :: .inLoop x :: kk)) cs w) b kk cs e a' w' := by
  intro m
  induction m using Nat.strongRecOn with
  | _ m ih =>
    intro s1 c1 a w hI hb hl SI1
    obtain ⟨e, a₁, w₁, ⟨c', s', I', hb', hl', hq⟩, harr⟩ := round m s1 hI hb hl c0 h0 w0 c1 a w hC SI1 b (.inLoop x :: kk) cs
    cases e with
    | normal =>
      obtain ⟨s3, m', k3, hI3, hlt⟩ := hq
      obtain ⟨c3, SI3⟩ := k3.2.2 c0 h0 w0 c' a₁ w₁ I'
      obtain ⟨e₂, a₂, w₂, hq₂, harr₂⟩ := ih m' hlt s3 c3 a₁ w₁ hI3 (k3.1.trans (hb'.trans hb)) (k3.2.1.trans (hl'.trans hl)) SI3
      exact ⟨e₂, a₂, w₂, hq₂, .of_steps (Steps.trans harr (.one step_inLoop)) harr₂⟩
    | exit id => exact ⟨_, a₁, w₁, ⟨c', s', I', hb'.trans hb, hl'.trans hl, hq⟩, .pass (x := .inLoop x) rfl (fun _ _ => .inl (by simp)) harr⟩
    | goto l => exact ⟨_, a₁, w₁, ⟨c', s', I', hb'.trans hb, hl'.trans hl, hq⟩, .pass (x := .inLoop x) rfl (fun _ _ => .inl (by simp)) harr⟩
    | ret => exact ⟨_, a₁, w₁, ⟨c', s', I', hb'.trans hb, hl'.trans hl, hq⟩, .pass (x := .inLoop x) rfl (fun _ _ => .inl (by simp)) harr⟩
    | panic ch => exact ⟨_, a₁, w₁, ⟨c', s', I', hb'.trans hb, hl'.trans hl, hq⟩, .pass (x := .inLoop x) rfl (fun _ _ => .inl (by simp)) harr⟩
    | outgrown => exact ⟨_, a₁, w₁, ⟨c', s', I', hb'.trans hb, hl'.trans hl, hq⟩, .pass (x := .inLoop x) rfl (fun _ _ => .inl (by simp)) harr⟩
 obtain ⟨e, a', w', hq, harr⟩ := key m s1 c1 a w hI k.1 k.2.1 SI1
 exact ⟨e, a', w', hq, .of_steps (.one step_loop) harr⟩
end
end Go.R
namespace Go.R
open Go.RowKit
mutual
def AV.lt (m : Nat) : AV → Prop
 | .own k _ _ => k < m
 | .p i _ => i < m
 | .agg cs => ltL m cs
 | .tup cs => ltL m cs
 | .fn _ a b => ltL m a ∧ ltL m b
 | .mp _ vs => ltL m vs
 | _ => True
def ltL (m : Nat) : List AV → Prop
 | [] => True
 | x :: r => AV.lt m x ∧ ltL m r
end
theorem ltL_get {m : Nat} : ∀ {l : List AV}, ltL m l → ∀ (j : Nat) x, l[j]? = some x → AV.lt m x
 | [], _, j, x, h => by simp at h
 | y :: l, h, 0, x, hx => by simp at hx; rw [← hx]; exact h.1
 | y :: l, h, j + 1, x, hx => ltL_get h.2 j x (by simpa using hx)
theorem ltL_of {m : Nat} : ∀ {l : List AV}, (∀ (j : Nat) x, l[j]? = some x → AV.lt m x) → ltL m l
 | [], _ => trivial
 | y :: l, h => ⟨h 0 y rfl, ltL_of fun j x hx => h (j + 1) x (by simpa using hx)⟩
theorem AV.lt_mono {m m' : Nat} (h : m ≤ m') : ∀ {x : AV}, AV.lt m x → AV.lt m' x := by
 intro x
 have key : (∀ x : AV, AV.lt m x → AV.lt m' x) ∧ ∀ l : List AV, ltL m l → ltL m' l := by
  refine ⟨fun x => ?_, fun l => ?_⟩
  · exact AV.rec (motive_1 := fun x => AV.lt m x → AV.lt m' x) (motive_2 := fun l => ltL m l → ltL m' l)
     (fun _ _ => by simp [AV.lt]) (fun k _ _ => by simp only [AV.lt]; omega) (fun i _ => by simp only [AV.lt]; omega) (fun _ _ => by simp [AV.lt])
     (fun cs ih => by simpa only [AV.lt] using ih) (fun cs ih => by simpa only [AV.lt] using ih) (fun f a b ia ib => by simp only [AV.lt]; exact fun q => ⟨ia q.1, ib q.2⟩) (fun _ => by simp [AV.lt]) (fun _ vs ih => by simpa only [AV.lt] using ih)
     (fun _ => trivial) (fun x l ix il q => ⟨ix q.1, il q.2⟩) x
  · induction l with
    | nil => exact fun _ => trivial
    | cons x l ih =>
      intro q
      refine ⟨?_, ih q.2⟩
      exact AV.rec (motive_1 := fun x => AV.lt m x → AV.lt m' x) (motive_2 := fun l => ltL m l → ltL m' l)
       (fun _ _ => by simp [AV.lt]) (fun k _ _ => by simp only [AV.lt]; omega) (fun i _ => by simp only [AV.lt]; omega) (fun _ _ => by simp [AV.lt])
       (fun cs ih => by simpa only [AV.lt] using ih) (fun cs ih => by simpa only [AV.lt] using ih) (fun f a b ia ib => by simp only [AV.lt]; exact fun q => ⟨ia q.1, ib q.2⟩) (fun _ => by simp [AV.lt]) (fun _ vs ih => by simpa only [AV.lt] using ih)
       (fun _ => trivial) (fun x l ix il q => ⟨ix q.1, il q.2⟩) x q.1
 exact key.1 x
def agree (m : Nat) (h h' : AH) : Prop := ∀ i, i < m → h' i = h i
theorem agree.refl (m : Nat) (h : AH) : agree m h h := fun _ _ => rfl
theorem agree.upd {m : Nat} {h h' : AH} {j : Nat} {x : AO} (hj : m ≤ j) (a : agree m h h') : agree m h (upd h' j x) := fun i hi => (upd_ne _ _ (by omega)).trans (a i hi)
section
variable {P : Program} {C : Tb} {c c0 c' : Cx} {s s1 s2 : St} {a : Act} {w w0 w' : World} {h h0 h' hh : AH} {n n' m : Nat} {T : List Nat} {Q Q' : Exit → St → Prop}
theorem ARep.ltn (hw : Wd c h n w) {v : Value} {x : AV} (r : ARep c h w v x) : AV.lt n x := by
 have hb : ∀ i cs, h i = .box cs → i < n := fun i cs hi => Nat.lt_of_not_le fun hle => by rw [hw.new i hle] at hi; cases hi
 have ht : ∀ i m z, h i = .tok m z → i < n := fun i m z hi => Nat.lt_of_not_le fun hle => by rw [hw.new i hle] at hi; cases hi
 induction r with
 | any v => simp [AV.lt]
 | d v x hd => simp [AV.lt]
 | own A cap k z xs m hd hk hm hτ => simpa [AV.lt] using ht k m z hk
 | p i off cs hi => simpa [AV.lt] using hb i cs hi
 | e b o cs f h1 h2 => simp [AV.lt]
 | agg vs cs hl hr ih =>
   rw [AV.lt]
   exact ltL_of fun j x hx => by
    have hj : j < vs.length := by rw [hl]; exact (List.getElem?_eq_some_iff.1 hx).1
    exact ih j _ x (List.getElem?_eq_getElem hj) hx
 | tup vs cs hl hr ih =>
   rw [AV.lt]
   exact ltL_of fun j x hx => by
    have hj : j < vs.length := by rw [hl]; exact (List.getElem?_eq_some_iff.1 hx).1
    exact ih j _ x (List.getElem?_eq_getElem hj) hx
 | fn f vf vc af ac h1 h2 h3 h4 ih1 ih2 =>
   rw [AV.lt]
   refine ⟨ltL_of fun j x hx => ?_, ltL_of fun j x hx => ?_⟩
   · have hj : j < vf.length := by rw [h1]; exact (List.getElem?_eq_some_iff.1 hx).1
     exact ih1 j _ x (List.getElem?_eq_getElem hj) hx
   · have hj : j < vc.length := by rw [h3]; exact (List.getElem?_eq_some_iff.1 hx).1
     exact ih2 j _ x (List.getElem?_eq_getElem hj) hx
 | mp b es clock ks vs hL hb2 hk hl hr ih =>
   rw [AV.lt]
   exact ltL_of fun j x hx => by
    have hj : j < (es.toList.map (·.val)).length := by rw [List.length_map, hl]; exact (List.getElem?_eq_some_iff.1 hx).1
    exact ih j _ x (List.getElem?_eq_getElem hj) hx
theorem ARep.agree (ha : agree m hh h) {v : Value} {x : AV} (r : ARep c h w v x) : AV.lt m x → ARep c hh w v x := by
 induction r with
 | any v => exact fun _ => .any v
 | d v x hd => exact fun _ => .d v x hd
 | own A cap k z xs m' hd hk hm hτ =>
   intro hx
   rw [AV.lt] at hx
   exact .own A cap k z xs m' hd ((ha k hx).symm.trans hk) hm hτ
 | p i off cs hi =>
   intro hx
   rw [AV.lt] at hx
   exact .p i off cs ((ha i hx).symm.trans hi)
 | e b o cs f h1 h2 => exact fun _ => .e b o cs f h1 h2
 | agg vs cs hl hr ih =>
   intro hx
   rw [AV.lt] at hx
   exact .agg vs cs hl fun j v x hv hx' => ih j v x hv hx' (ltL_get hx j x hx')
 | tup vs cs hl hr ih =>
   intro hx
   rw [AV.lt] at hx
   exact .tup vs cs hl fun j v x hv hx' => ih j v x hv hx' (ltL_get hx j x hx')
 | mp b es clock ks vs hL hb hk hl hr ih =>
   intro hx
   rw [AV.lt] at hx
   exact .mp b es clock ks vs hL hb hk hl fun j v x hv hx' => ih j v x hv hx' (ltL_get hx j x hx')
 | fn f vf vc af ac h1 h2 h3 h4 ih1 ih2 =>
   intro hx
   rw [AV.lt] at hx
   exact .fn f vf vc af ac h1 (fun j v x hv hx' => ih1 j v x hv hx' (ltL_get hx.1 j x hx')) h3 (fun j v x hv hx' => ih2 j v x hv hx' (ltL_get hx.2 j x hx'))
theorem Wd.forget (hw : Wd c h n w) (ha : agree m hh h) (hno : ∀ i, m ≤ i → hh i = .no) (hbox : ∀ i cs, i < m → h i = .box cs → ltL m cs) : Wd c hh m w := by
 have old : ∀ i, hh i ≠ .no → i < m ∧ hh i = h i := fun i hi => by
  have : i < m := Nat.lt_of_not_le fun hle => hi (hno i hle)
  exact ⟨this, (ha i this).symm⟩
 have hblk : ∀ i b, (hh i).blk c i = some b → (h i).blk c i = some b := fun i b hb => by
  have := old i (fun e => by rw [e] at hb; cases hb)
  rw [← this.2]; exact hb
 refine ⟨fun i cs hi => ?_, fun i k z cap hi => ?_, fun i k z a cap hi => ?_, fun i j b hij hi hj => hw.ne i j b hij (hblk i b hi) (hblk j b hj), hw.fresh, hno, hw.glob⟩
 · obtain ⟨h1, h2⟩ := old i (by rw [hi]; simp)
   have h3 : h i = .box cs := by rw [← h2]; exact hi
   obtain ⟨g1, vals, ty, g2, g3, g4⟩ := hw.box i cs h3
   exact ⟨g1, vals, ty, g2, g3, fun j v x hv hx => (g4 j v x hv hx).agree ha (ltL_get (hbox i cs h1 h3) j x hx)⟩
 · obtain ⟨h1, h2⟩ := old i (by rw [hi]; simp)
   exact hw.tokN i k z cap (by rw [← h2]; exact hi)
 · obtain ⟨h1, h2⟩ := old i (by rw [hi]; simp)
   exact hw.tokS i k z a cap (by rw [← h2]; exact hi)
def wk1 : AV → AV → Prop
 | .own _ z xs, .d (.sl z' ys) => z = z' ∧ xs = ys
 | .d (.v (.slice none 0 0)), .d (.sl _ ys) => ys = []
 | x, y => x = y ∨ y = .any
def wkL : List AV → List AV → Prop
 | [], [] => True
 | x :: a, y :: b => wk1 x y ∧ wkL a b
 | _, _ => False
def wk2 : AV → AV → Prop
 | .agg a, .agg b => wkL a b
 | x, y => wk1 x y
def wkL2 : List AV → List AV → Prop
 | [], [] => True
 | x :: a, y :: b => wk2 x y ∧ wkL2 a b
 | _, _ => False
def wk3 : AV → AV → Prop
 | .tup a, .tup b => wkL2 a b
 | x, y => wk2 x y
theorem wk1_rep {v : Value} {x y : AV} (r : ARep c h w v x) (k : wk1 x y) : ARep c h w v y := by
 unfold wk1 at k
 split at k
 · obtain ⟨rfl, rfl⟩ := k
   cases r with
   | own A cap k z xs m hd hk hm hτ => exact .d _ _ hd
 · subst k
   have := cval_rep r rfl
   subst this
   exact .d _ _ (.sl none 0 _ [] (fun _ _ => undef) (by simp) (by simp) (fun a h => by cases h) (fun _ => ⟨rfl, rfl⟩) (fun a h => by cases h) (fun i j row x hi => by simp at hi))
 · rcases k with rfl | rfl
   · exact r
   · exact .any v
theorem wkL_rep : ∀ {vs : List Value} {a b : List AV}, vs.length = a.length → (∀ (j : Nat) v x, vs[j]? = some v → a[j]? = some x → ARep c h w v x) → wkL a b → vs.length = b.length ∧ ∀ (j : Nat) v x, vs[j]? = some v → b[j]? = some x → ARep c h w v x
 | [], [], [], hl, hr, _ => ⟨hl, hr⟩
 | v :: vs, x :: a, y :: b, hl, hr, k => by
   obtain ⟨h1, h2⟩ := wkL_rep (vs := vs) (a := a) (b := b) (by simpa using hl) (fun j v x hv hx => hr (j + 1) v x (by simpa using hv) (by simpa using hx)) k.2
   refine ⟨by simp [h1], fun j u z hu hz => ?_⟩
   cases j with
   | zero => simp at hu hz; rw [← hu, ← hz]; exact wk1_rep (hr 0 v x rfl rfl) k.1
   | succ j => exact h2 j u z (by simpa using hu) (by simpa using hz)
 | [], _ :: _, _, hl, _, _ => by simp at hl
 | _ :: _, [], _, hl, _, _ => by simp at hl
 | [], [], _ :: _, _, _, k => k.elim
 | _ :: _, _ :: _, [], _, _, k => k.elim
theorem wk2_rep {v : Value} {x y : AV} (r : ARep c h w v x) (k : wk2 x y) : ARep c h w v y := by
 unfold wk2 at k
 split at k
 · cases r with
   | agg vs cs hl hr =>
     obtain ⟨h1, h2⟩ := wkL_rep hl hr k
     exact .agg vs _ h1 h2
 · exact wk1_rep r k
theorem wkL2_rep : ∀ {vs : List Value} {a b : List AV}, vs.length = a.length → (∀ (j : Nat) v x, vs[j]? = some v → a[j]? = some x → ARep c h w v x) → wkL2 a b → vs.length = b.length ∧ ∀ (j : Nat) v x, vs[j]? = some v → b[j]? = some x → ARep c h w v x
 | [], [], [], hl, hr, _ => ⟨hl, hr⟩
 | v :: vs, x :: a, y :: b, hl, hr, k => by
   obtain ⟨h1, h2⟩ := wkL2_rep (vs := vs) (a := a) (b := b) (by simpa using hl) (fun j v x hv hx => hr (j + 1) v x (by simpa using hv) (by simpa using hx)) k.2
   refine ⟨by simp [h1], fun j u z hu hz => ?_⟩
   cases j with
   | zero => simp at hu hz; rw [← hu, ← hz]; exact wk2_rep (hr 0 v x rfl rfl) k.1
   | succ j => exact h2 j u z (by simpa using hu) (by simpa using hz)
 | [], _ :: _, _, hl, _, _ => by simp at hl
 | _ :: _, [], _, hl, _, _ => by simp at hl
 | [], [], _ :: _, _, _, k => k.elim
 | _ :: _, _ :: _, [], _, _, k => k.elim
theorem wk3_rep {v : Value} {x y : AV} (r : ARep c h w v x) (k : wk3 x y) : ARep c h w v y := by
 unfold wk3 at k
 split at k
 · cases r with
   | tup vs cs hl hr =>
     obtain ⟨h1, h2⟩ := wkL2_rep hl hr k
     exact .tup vs _ h1 h2
 · exact wk2_rep r k
theorem aload_ptr {v : Value} {x : AV} {ty : TypeId} {K : AV → Prop} (r : ARep c h w v x) (hK : aload P ty h x K) : ∃ ad, v = .pointer (some ad) := by
 cases r with
 | p => exact ⟨_, rfl⟩
 | e => exact ⟨_, rfl⟩
 | any | d | own | agg | tup | fn | mp => exact hK.elim
def ares (P : Program) (s : St) : List ResultVar → (List AV → Prop) → Prop
 | [], K => K []
 | .tmp t :: r, K => ares P s r fun l => K (s.t.getD t .any :: l)
 | .cell a t :: r, K => infoP P t = true ∧ aload P t s.h (s.t.getD a .any) fun x => ares P s r fun l => K (x :: l)
def packR : List AV → AV
 | [x] => x
 | l => .tup l
theorem ares_run (I : SI T c0 h0 w0 c s a w) : ∀ (rs : List ResultVar) (K : List AV → Prop), ares P s rs K →
 ∃ vs l, (rs.mapM fun
   | .tmp t => pure (a.tmps.getD t undef)
   | .cell x t => do loadVar t (← asAddr (a.tmps.getD x undef)) : Sem (List Value)).run P w = .ok vs w ∧ vs.length = l.length ∧ (∀ (j : Nat) v x, vs[j]? = some v → l[j]? = some x → ARep c s.h w v x) ∧ l.length = rs.length ∧ K l
 | [], K, hK => ⟨[], [], rfl, rfl, by simp, rfl, hK⟩
 | .tmp t :: r, K, hK => by
   obtain ⟨vs, l, h1, h2, h3, h4, h5⟩ := ares_run I r _ hK
   refine ⟨a.tmps.getD t undef :: vs, _, ?_, ?_, ?_, ?_, h5⟩
   · simp only [List.mapM_cons, Sem.run_bind, Sem.run_pure, Result.andThen_ok, h1]
   · simp [h2]
   · intro j v x hv hx
     cases j with
     | zero => simp at hv hx; rw [← hv, ← hx]; have := ev_rep I.srep (.tmp t); simpa [Act.eval, ev] using this
     | succ j => exact h3 j v x (by simpa using hv) (by simpa using hx)
   · simp [h4]
 | .cell p t :: r, K, hK => by
   obtain ⟨hi, hK⟩ := hK
   have hp := ev_rep I.srep (.tmp p)
   simp only [ev] at hp
   have hptr := aload_ptr hp hK
   obtain ⟨v, x, hv, hx, hK⟩ := aload_reads (P := P) I.srep.wd hp hi hK
   obtain ⟨vs, l, h1, h2, h3, h4, h5⟩ := ares_run I r _ hK
   have hv := hv w (Same.refl w)
   have hload : (do loadVar t (← asAddr (a.tmps.getD p undef)) : Sem Value).run P w = .ok v w := by
    have he : a.eval (.tmp p) = a.tmps.getD p undef := rfl
    rw [he] at hv hptr
    obtain ⟨ad, hq⟩ := hptr
    rw [hq] at hv ⊢
    simp only [Instr.loadAt, Instr.sureAddr, Sem.run_bind, Sem.run_pure, Result.andThen_ok] at hv
    simp only [asAddr, Sem.run_bind, Sem.run_pure, Result.andThen_ok]
    cases hr : (loadVar t ad).run P w with
    | ok u w2 =>
      rw [hr] at hv
      simp at hv
      rw [hv.1, hv.2]
    | halt e w2 => rw [hr] at hv; cases hv
   refine ⟨v :: vs, _, ?_, ?_, ?_, ?_, h5⟩
   · rw [List.mapM_cons, Sem.run_bind, hload]
     simp only [Result.andThen_ok, Sem.run_bind, h1, Sem.run_pure]
   · simp [h2]
   · intro j u y hu hy
     cases j with
     | zero => simp at hu hy; rw [← hu, ← hy]; exact hx
     | succ j => exact h3 j u y (by simpa using hu) (by simpa using hy)
   · simp [h4]
def AFin (n : Nat) (h : AH) (s : St) (r : AV) (K : AV → AH → Nat → Prop) : Prop :=
 ∃ m hh r', n ≤ m ∧ agree m hh s.h ∧ (∀ i, m ≤ i → hh i = .no) ∧ (∀ i cs, i < m → hh i = .box cs → h i = .box cs ∨ ltL m cs) ∧ wk3 r r' ∧ AV.lt m r' ∧ K r' hh m
theorem AFin.pure {r r' : AV} {K : AV → AH → Nat → Prop} (hno : ∀ i, n ≤ i → h i = .no) (ha : agree n h s.h) (hw : wk3 r r') (hl : AV.lt n r') (hK : K r' h n) : AFin n h s r K :=
 ⟨n, h, r', Nat.le_refl n, ha, hno, fun i cs _ hi => .inl hi, hw, hl, hK⟩
theorem mapM_arr {α β : Type} (f : α → Sem β) (xs : Array α) (w : World) (ys : List β) (h : (xs.toList.mapM f).run P w = .ok ys w) : (xs.mapM f).run P w = .ok ys.toArray w := by
 rw [Array.mapM_eq_mapM_toList, Sem.run_map, h]
 rfl
theorem Entered.of {f : FuncId} {fn : Func} {code : Code} (hf : P.funcs[f]? = some fn) (hbody : fn.body = some code) (hn : (fn.name == "runtime.NumGoroutine") = false) : Entered P f := by
 intro args w
 have hn' : fn.name ≠ "runtime.NumGoroutine" := by simpa using hn
 simp [callFunc, hf, hn', hbody]
theorem SpOk.of_code {f : FuncId} {fn : Func} {code : Code} {S : Sp} (hf : P.funcs[f]? = some fn) (hbody : fn.body = some code) (hn : (fn.name == "runtime.NumGoroutine") = false) (hC : TbOk P C)
 (H : ∀ args h n K, S.ok args h n K → (∀ i, n ≤ i → h i = .no) → (∀ i cs, h i = .box cs → ltL n cs) → ∃ args', (∀ (c : Cx) (w : World) (vs : List Value), vs.length = args.length → (∀ (j : Nat) v x, vs[j]? = some v → args[j]? = some x → ARep c h w v x) → vs.length = args'.length ∧ ∀ (j : Nat) v x, vs[j]? = some v → args'[j]? = some x → ARep c h w v x) ∧
   AW P C (S.tch args) code (fun e s' => (match e with
    | .normal => True
    | .ret => True
    | _ => False) ∧ ares P s' fn.results.toList fun l => AFin n h s' (packR l) K) ⟨args' ++ List.replicate (fn.ntmps - args'.length) .any, h, n, n⟩) : SpOk P f S := by
 intro c h n w vals args K hw hl hr hS
 refine ⟨Entered.of hf hbody hn, ?_⟩
 obtain ⟨args', hargs, hA⟩ := H args h n K hS hw.new (fun i cs hi => ltL_of fun j x hx => by
  obtain ⟨_, vals, ty, h2, h3, h4⟩ := hw.box i cs hi
  have hj : j < vals.size := by rw [h3]; exact (List.getElem?_eq_some_iff.1 hx).1
  exact (h4 j _ x (Array.getElem?_eq_getElem hj) hx).ltn hw)
 obtain ⟨hl', hr'⟩ := hargs c w vals hl hr
 refine calls_of_wp hf hbody ?_
 have I0 : SI (S.tch args) c h w c ⟨args' ++ List.replicate (fn.ntmps - args'.length) .any, h, n, n⟩ { tmps := vals.toArray ++ Array.replicate (fn.ntmps - vals.toArray.size) undef, defers := [] } w := by
  refine ⟨⟨by simp [hl'], fun i v x hv hx => ?_, rfl, hw⟩, Ext.refl _ _ _, Fr.refl _ _ _ _, hw.new, Nat.le_refl _⟩
  by_cases hi : i < args'.length
  · rw [Array.getElem?_append_left (by simp; omega)] at hv
    rw [List.getElem?_append_left hi] at hx
    exact hr' i v x (by simpa using hv) hx
  · rw [List.getElem?_append_right (by omega)] at hx
    have := List.mem_of_getElem? hx
    rw [List.mem_replicate] at this
    rw [this.2]
    exact .any v
 refine wp_mono (hA c h w c _ w hC I0) fun e a' w' ⟨c', s', I', hb, hl2, he, hres⟩ => ?_
 have fin : a'.defers = [] ∧ ∃ v, (results fn a'.tmps).run P w' = .ok v w' ∧ (fun e w'' => ∃ v r c' h' n', e = Ending.returned v ∧ Wd c' h' n' w'' ∧ Ext c h w c' h' w'' ∧ Fr (fun i => i ∈ S.tch args) c h w c' h' w'' ∧ ARep c' h' w'' v r ∧ n ≤ n' ∧ K r h' n') (.returned v) w' := by
  refine ⟨I'.srep.defers, ?_⟩
  obtain ⟨vs, l, h1, h2, h3, h4, m, hh, r', f1, f2, f3, f4, f5, f6, f7⟩ := ares_run I' fn.results.toList _ hres
  have hrun : (results fn a'.tmps).run P w' = .ok (if h : vs.length = 1 then vs[0] else .tuple vs.toArray) w' := by
   have := mapM_arr _ fn.results w' vs h1
   unfold results
   rw [Sem.run_bind]
   refine (congrArg (fun q => Result.andThen q _) this).trans ?_
   simp only [Result.andThen_ok]
   by_cases h1 : vs.length = 1
   · simp [h1]
   · simp [h1]
  have hrep : ARep c' s'.h w' (if h : vs.length = 1 then vs[0] else .tuple vs.toArray) (packR l) := by
   by_cases h1 : vs.length = 1
   · rw [dif_pos h1]
     obtain ⟨v, rfl⟩ := List.length_eq_one_iff.1 h1
     obtain ⟨x, rfl⟩ := List.length_eq_one_iff.1 (h2.symm.trans h1)
     exact h3 0 v x rfl rfl
   · rw [dif_neg h1]
     have : packR l = .tup l := by
      cases l with
      | nil => rfl
      | cons x r =>
        cases r with
        | nil => exact absurd h2 h1
        | cons _ _ => rfl
     rw [this]
     exact .tup vs l h2 h3
  have hin : ∀ i, h i ≠ .no → i < n := fun i hi => Nat.lt_of_not_le fun hle => hi (hw.new i hle)
  have hsn : ∀ i, hh i ≠ .no → s'.h i = hh i := fun i hi => f2 i (Nat.lt_of_not_le fun hle => hi (f3 i hle))
  have hwd : Wd c' hh m w' := I'.srep.wd.forget f2 f3 fun i cs hi hb => by
   rcases f4 i cs hi (by rw [← f2 i hi]; exact hb) with g | g
   · refine ltL_of fun j x hx => ?_
     obtain ⟨_, vals', ty, g2, g3, g4⟩ := hw.box i cs g
     have hj : j < vals'.size := by rw [g3]; exact (List.getElem?_eq_some_iff.1 hx).1
     have := (g4 j _ x (Array.getElem?_eq_getElem hj) hx).ltn hw
     have hle := f1
     exact AV.lt_mono hle this
   · exact g
  have hext : Ext c h w c' hh w' := by
   refine ⟨I'.ext.os, I'.ext.tape, I'.ext.output, I'.ext.size, I'.ext.lo, I'.ext.cell, I'.ext.all, fun i cs hi => ?_, fun i k z hi => ?_⟩
   · have hlt := Nat.lt_of_lt_of_le (hin i (by rw [hi]; simp)) f1
     obtain ⟨g1, cs', g2⟩ := I'.ext.box i cs hi
     exact ⟨g1, cs', by rw [← f2 i hlt]; exact g2⟩
   · have hlt := Nat.lt_of_lt_of_le (hin i (by rw [hi]; simp)) f1
     obtain ⟨k', g1, g2, g3⟩ := I'.ext.tok i k z hi
     exact ⟨k', by rw [← f2 i hlt]; exact g1, g2, g3⟩
  refine ⟨_, hrun, _, r', c', hh, m, rfl, hwd, hext, ⟨I'.fr.far, fun i b hb hlt => I'.fr.old i b ?_ hlt⟩, ?_, f1, f7⟩
  · have : hh i ≠ .no := fun e => by rw [e] at hb; cases hb
    rw [hsn i this]; exact hb
  · exact (wk3_rep hrep f5).agree f2 f6
 cases e with
 | normal => exact fin
 | ret => exact fin
 | _ => exact he.elim
end
end Go.R
namespace Go.R
open Go.RowKit
def onO {α : Type} (x : Option α) (f : α → Prop) : Prop := match x with
 | some a => f a
 | none => False
def onB (x : AV) (f : Bool → Prop) : Prop := match x with
 | .d (.v (.bool q)) => f q
 | _ => False
def onG (x : AV) (f : Bool → Prop) (g : Prop) : Prop := match x with
 | .d (.v (.bool q)) => f q
 | .tup [] => g
 | _ => False
def onQ (q : Bool) (A B : Prop) : Prop := (q = true → A) ∧ (q = false → B)
theorem onQ_match (q : Bool) (A B : Prop) : onQ q A B = match q with
 | true => A
 | false => B := by cases q <;> simp [onQ]
def onBox (x : AO) (f : List AV → Prop) : Prop := match x with
 | .box cs => f cs
 | _ => False
def onTup (x : AV) (f : List AV → Prop) : Prop := match x with
 | .tup cs => f cs
 | _ => False
@[congr] theorem onO_congr {α : Type} {x x' : Option α} {f : α → Prop} (h : x = x') : onO x f = onO x' f := by rw [h]
@[congr] theorem onBox_congr {x x' : AO} {f : List AV → Prop} (h : x = x') : onBox x f = onBox x' f := by rw [h]
def xwrap (k : IntKind) (n : Int) (K : Value → Prop) : Prop := match k with
 | .i64 => (-9223372036854775808 ≤ n ∧ n ≤ 9223372036854775807) ∧ K (.int .i64 n)
 | k => K (.int k (k.wrap n))
def xint (op : BinOp) (k : IntKind) (a b : Int) (K : Value → Prop) : Prop := match op with
 | .add => xwrap k (a + b) K
 | .sub => xwrap k (a - b) K
 | .mul => xwrap k (a * b) K
 | .quo => b ≠ 0 ∧ K (.int k (k.wrap (a.tdiv b)))
 | .rem => b ≠ 0 ∧ K (.int k (a.tmod b))
 | .eql => K (.bool (a == b))
 | .neq => K (.bool (a != b))
 | .lss => K (.bool (decide (a < b)))
 | .leq => K (.bool (decide (a ≤ b)))
 | .gtr => K (.bool (decide (b < a)))
 | .geq => K (.bool (decide (b ≤ a)))
 | .and => K (.int k (k.wrap (BitVec.ofInt k.bits a &&& BitVec.ofInt k.bits b).toNat))
 | .or => K (.int k (k.wrap (BitVec.ofInt k.bits a ||| BitVec.ofInt k.bits b).toNat))
 | .xor => K (.int k (k.wrap (BitVec.ofInt k.bits a ^^^ BitVec.ofInt k.bits b).toNat))
 | .andNot => K (.int k (k.wrap (BitVec.ofInt k.bits a &&& ~~~(BitVec.ofInt k.bits b)).toNat))
 | _ => False
def xshift (op : BinOp) (k : IntKind) (a b : Int) (K : Value → Prop) : Prop := match op with
 | .shl => 0 ≤ b ∧ K (.int k (k.wrap (a * 2 ^ min b.toNat k.bits)))
 | .shr => 0 ≤ b ∧ K (.int k (a.fdiv (2 ^ min b.toNat k.bits)))
 | _ => False
def isShift : BinOp → Bool
 | .shl => true
 | .shr => true
 | _ => false
def xstr (op : BinOp) (a b : ByteArray) (K : Value → Prop) : Prop := match op with
 | .add => ((a.size + b.size : Nat) : Int) ≤ 9223372036854775807 ∧ K (.string (a ++ b))
 | .eql => K (.bool (a.toList == b.toList))
 | .neq => K (.bool (!(a.toList == b.toList)))
 | .lss => K (.bool (Op.bytesLess a.toList b.toList))
 | .leq => K (.bool (Op.bytesLess a.toList b.toList || a.toList == b.toList))
 | .gtr => K (.bool (!(Op.bytesLess a.toList b.toList || a.toList == b.toList)))
 | .geq => K (.bool (!Op.bytesLess a.toList b.toList))
 | _ => False
def xbin (P : Program) (op : BinOp) (ty : TypeId) (x y : Operand) (u v : Value) (K : Value → Prop) : Prop := match u with
 | .int k a => match v with
   | .int k' b => if isShift op then xshift op k a b K else k = k' ∧ xint op k a b K
   | _ => False
 | .string a => match v with
   | .string b => xstr op a b K
   | _ => False
 | u => ∃ r, (∀ w, (do eqGuard op ty x y u v; binOp op ty u v).run P w = .ok r w) ∧ K r
section
variable {P : Program}
theorem xwrap_run {k : IntKind} {n : Int} {K : Value → Prop} (h : xwrap k n K) : K (.int k (k.wrap n)) := by
 unfold xwrap at h
 split at h
 · rw [IntWalk.i64_in _ h.1]; exact h.2
 · exact h
theorem xint_run {op : BinOp} {k : IntKind} {a b : Int} {K : Value → Prop} (h : xint op k a b K) (ho : isShift op = false) (ty : TypeId) (x y : Operand) : ∃ r, (∀ w, (do eqGuard op ty x y (.int k a) (.int k b); binOp op ty (.int k a) (.int k b)).run P w = .ok r w) ∧ K r := by
 cases op <;> simp only [xint, isShift] at h ho
 case add => exact ⟨_, fun w => by simp [eqGuard, binOp, Op.intArith], xwrap_run h⟩
 case sub => exact ⟨_, fun w => by simp [eqGuard, binOp, Op.intArith], xwrap_run h⟩
 case mul => exact ⟨_, fun w => by simp [eqGuard, binOp, Op.intArith], xwrap_run h⟩
 case quo => exact ⟨_, fun w => by simp [eqGuard, binOp, Op.intDiv, h.1], h.2⟩
 case rem => exact ⟨_, fun w => by simp [eqGuard, binOp, Op.intDiv, h.1], h.2⟩
 case eql => exact ⟨_, fun w => by simp [eqGuard, binOp, Op.intCmp], h⟩
 case neq => exact ⟨_, fun w => by simp [eqGuard, binOp, Op.intCmp], h⟩
 case lss => exact ⟨_, fun w => by simp [eqGuard, binOp, Op.intCmp], h⟩
 case leq => exact ⟨_, fun w => by simp [eqGuard, binOp, Op.intCmp], h⟩
 case gtr => exact ⟨_, fun w => by simp [eqGuard, binOp, Op.intCmp], h⟩
 case geq => exact ⟨_, fun w => by simp [eqGuard, binOp, Op.intCmp], h⟩
 case and => exact ⟨_, fun w => by simp [eqGuard, binOp, Op.intBits], h⟩
 case or => exact ⟨_, fun w => by simp [eqGuard, binOp, Op.intBits], h⟩
 case xor => exact ⟨_, fun w => by simp [eqGuard, binOp, Op.intBits], h⟩
 case andNot => exact ⟨_, fun w => by simp [eqGuard, binOp, Op.intBits], h⟩
 all_goals first | exact h.elim | cases ho
theorem xstr_run {op : BinOp} {a b : ByteArray} {K : Value → Prop} (h : xstr op a b K) (ty : TypeId) (x y : Operand) : ∃ r, (∀ w, (do eqGuard op ty x y (.string a) (.string b); binOp op ty (.string a) (.string b)).run P w = .ok r w) ∧ K r := by
 cases op <;> simp only [xstr] at h
 case add =>
  refine ⟨_, fun w => ?_, h.2⟩
  have : ¬ (IntKind.i64.max < (a.size : Int) + (b.size : Int)) := by
   have := h.1
   have e : IntKind.i64.max = 9223372036854775807 := by decide
   omega
  simp [eqGuard, binOp, Op.stringOp, this]
  have := h.1
  omega
 case eql => exact ⟨_, fun w => by simp [eqGuard, binOp, Op.stringOp], h⟩
 case neq => exact ⟨_, fun w => by simp [eqGuard, binOp, Op.stringOp], h⟩
 case lss => exact ⟨_, fun w => by simp [eqGuard, binOp, Op.stringOp], h⟩
 case leq => exact ⟨_, fun w => by simp [eqGuard, binOp, Op.stringOp], h⟩
 case gtr => exact ⟨_, fun w => by simp [eqGuard, binOp, Op.stringOp], h⟩
 case geq => exact ⟨_, fun w => by simp [eqGuard, binOp, Op.stringOp], h⟩
 all_goals exact h.elim
theorem xbin_run {op : BinOp} {ty : TypeId} {x y : Operand} {u v : Value} {K : Value → Prop} (h : xbin P op ty x y u v K) : ∃ r, (∀ w, (do eqGuard op ty x y u v; binOp op ty u v).run P w = .ok r w) ∧ K r := by
 unfold xbin at h
 split at h
 · rename_i k a
   split at h
   · rename_i k' b
     split at h
     · rename_i hs
       cases op <;> simp [isShift] at hs
       · exact ⟨_, fun w => by
          have := h.1
          have : ¬ (b < 0) := by omega
          simp [eqGuard, binOp, Op.shift, this], h.2⟩
       · exact ⟨_, fun w => by
          have := h.1
          have : ¬ (b < 0) := by omega
          simp [eqGuard, binOp, Op.shift, this], h.2⟩
     · rename_i hs
       obtain ⟨rfl, h⟩ := h
       exact xint_run h (by simpa using hs) ty x y
   · exact h.elim
 · split at h
   · exact xstr_run h ty x y
   · exact h.elim
 · exact h
end
end Go.R
namespace Go.R
open Go.RowKit
def strP (P : Program) (t : TypeId) : Bool := match P.underlying t with
 | some .string => true
 | _ => false
def byteAt (s : ByteArray) (i : Int) : Int := match s[i.toNat]? with
 | some b => b.toNat
 | none => 0
def xpack (P : Program) (t : TypeId) (cs : List AV) (K : AV → Prop) : Prop :=
 if aggP P t then sizeP P t ≤ cs.length ∧ K (.agg (cs.take (sizeP P t))) else onO cs.head? K
def xload (P : Program) (t : TypeId) (h : AH) (x : AV) (K : AV → Prop) : Prop := match x with
 | .p i off => onBox (h i) fun cs => xpack P t (cs.drop off) K
 | .e cs => xpack P t (cs.map .d) K
 | _ => False
def xfield (off : Nat) (x : AV) (K : AV → Prop) : Prop := match x with
 | .p j o => K (.p j (o + off))
 | .e cs => K (.e (cs.drop off))
 | _ => False
def xarr (n : Nat) (z : Nat) (i : Int) (x : AV) (K : AV → Prop) : Prop := match x with
 | .p j off => 0 ≤ i ∧ i < n ∧ K (.p j (off + i.toNat * z))
 | _ => False
def xrow (xs : List (List DV)) (i : Int) (K : AV → Prop) : Prop := (0 ≤ i ∧ i < xs.length) ∧ ∀ row, xs[i.toNat]? = some row → K (.e row)
def xidx (P : Program) (t : TypeId) (x ix : AV) (K : AV → Prop) : Prop := onO (aint ix) fun i => match sliceP P t with
 | some e => infoP P e = true ∧ onO (rowsOf (sizeP P e) x) fun xs => xrow xs i K
 | none => onO (arrayP P t) fun q => infoP P q.2 = true ∧ xarr q.1 (sizeP P q.2) i x K
def xptr (x : AV) (K : AV → Prop) : Prop := match x with
 | .p i off => K (.p i off)
 | .e cs => K (.e cs)
 | .fn f a b => (∃ g, f = .func g) ∧ K (.fn f a b)
 | _ => False
def xun (op : UnOp) (u : Value) (K : Value → Prop) : Prop := match u with
 | .bool b => op = .not ∧ K (.bool (!b))
 | .int k n => op = .neg ∧ xwrap k (0 - n) K
 | _ => False
def xcut (n : Nat) (lo hi : Option Int) (K : Nat → Nat → Prop) : Prop := match lo with
 | none => match hi with
   | none => K 0 n
   | some b => (0 ≤ b ∧ b ≤ n) ∧ K 0 b.toNat
 | some l => match hi with
   | none => (0 ≤ l ∧ l ≤ n) ∧ K l.toNat n
   | some b => (0 ≤ l ∧ l ≤ b ∧ b ≤ n) ∧ K l.toNat b.toNat
def onInt (t : List AV) (x : Option Operand) (K : Option Int → Prop) : Prop := match x with
 | none => K none
 | some q => onO (aint (ev t q)) fun i => K (some i)
def xsl (P : Program) (ty : TypeId) (x : AV) (lo hi : Option Int) (K : AV → Prop) : Prop := match sliceP P ty with
 | some e => infoP P e = true ∧ onO (rowsOf (sizeP P e) x) fun xs => xcut xs.length lo hi fun l m => K (.d (.sl (sizeP P e) ((xs.take m).drop l)))
 | none => strP P ty = true ∧ match x with
   | .d (.v (.string s)) => xcut s.size lo hi fun l m => K (.d (.v (.string (s.extract l m))))
   | _ => False
def xbi (P : Program) (b : Builtin) (c : Call) (ty : TypeId) (t : List AV) (K : AV → Prop) : Prop := match b with
 | .len => onO c.args.toList.head? fun x => onO c.argTypes[0]? fun ty => match ev t x with
   | .d (.sl _ xs) => (sliceP P ty).isSome = true ∧ c.args.toList.length = 1 ∧ K (.d (.v (.int .i64 xs.length)))
   | .own _ _ xs => (sliceP P ty).isSome = true ∧ c.args.toList.length = 1 ∧ K (.d (.v (.int .i64 xs.length)))
   | .d (.v (.string s)) => strP P ty = true ∧ c.args.toList.length = 1 ∧ K (.d (.v (.int .i64 s.size)))
   | .d (.v (.slice none 0 0)) => (sliceP P ty).isSome = true ∧ c.args.toList.length = 1 ∧ K (.d (.v (.int .i64 0)))
   | _ => False
 | .min => match c.args.toList with
   | [x, y] => onO (aint (ev t x)) fun a => onO (aint (ev t y)) fun b => onO (akind (ev t x)) fun k => K (.d (.v (.int k (if b < a then b else a))))
   | _ => False
 | .max => match c.args.toList with
   | [x, y] => onO (aint (ev t x)) fun a => onO (aint (ev t y)) fun b => onO (akind (ev t x)) fun k => K (.d (.v (.int k (if b > a then b else a))))
   | _ => False
 | _ => False
where akind : AV → Option IntKind
 | .d (.v (.int k _)) => some k
 | _ => none
def xbuild (place : Nat → Option (Nat × Nat)) : List (Nat × AV) → List AV → (AV → Prop) → Prop
 | [], cs, K => K (.agg cs)
 | (i, x) :: r, cs, K => onO (place i) fun q => onO (cellsA x) fun ncs => ncs.length = q.2 ∧ q.1 + ncs.length ≤ cs.length ∧ xbuild place r (splice cs q.1 ncs) K
def xapp (P : Program) (e : TypeId) (k z : Nat) (xs : List (List DV)) (x : AV) (h : AH) (n : Nat) (T : Nat → Prop) (K : AV → AH → Nat → Prop) : Prop :=
 onO (rowsOf z x) fun ys => (xs.length + ys.length ≤ maxLen ∧ (xs.length + ys.length) * bytesP P e ≤ 140737488355328) ∧ T k ∧ K (.own k z (xs ++ ys)) (upd h k (.tok (xs.length + ys.length) z)) n
def tokIs (o : AO) (m z : Nat) : Prop := match o with
 | .tok m' z' => m' = m ∧ z' = z
 | _ => False
def xappend (P : Program) (t : TypeId) (s x : AV) (h : AH) (n : Nat) (T : Nat → Prop) (K : AV → AH → Nat → Prop) : Prop :=
 onO (sliceP P t) fun e => infoP P e = true ∧ 0 < sizeP P e ∧ (onO (zeroA P e) fun zs => zs.length = sizeP P e) ∧ match s with
  | .own k z xs => z = sizeP P e ∧ tokIs (h k) xs.length z ∧ xapp P e k z xs x h n T K
  | .d (.v (.slice none 0 0)) => xapp P e n (sizeP P e) [] x (upd h n (.tok 0 (sizeP P e))) (n + 1) (fun j => j = n) K
  | _ => False
def xcall (C : Tb) (f : AV) (args : List AV) (h : AH) (n : Nat) (T : Nat → Prop) (K : AV → AH → Nat → Prop) : Prop := match f with
 | .fn (.func g) [] caps => (∀ i ∈ (C g).tch (args ++ caps), T i) ∧ (C g).ok (args ++ caps) h n K
 | _ => False
def xop (P : Program) (C : Tb) (op : Op) (ty : TypeId) (t : List AV) (h : AH) (n : Nat) (T : Nat → Prop) (K : AV → AH → Nat → Prop) : Prop := match op with
 | .move x => K (ev t x) h n
 | .assign x => K (ev t x) h n
 | .pick c a b => onB (ev t c) fun q => onQ q (K (ev t a) h n) (K (ev t b) h n)
 | .load ty x => infoP P ty = true ∧ xload P ty h (ev t x) fun r => K r h n
 | .nilCheck x => xptr (ev t x) fun r => K r h n
 | .fieldAddr ty x f => onO (fieldP P ty f) fun q => infoP P q.2 = true ∧ sizeP P q.2 ≠ 0 ∧ xfield q.1 (ev t x) fun r => K r h n
 | .indexAddr ty x i => xidx P ty (ev t x) (ev t i) fun r => K r h n
 | .extract x i => onTup (ev t x) fun vs => onO vs[i]? fun y => K y h n
 | .makeFunc f a b => K (.fn f (a.toList.map (ev t)) (b.toList.map (ev t))) h n
 | .binOp op ty x y _ => (onO (sval (ev t x)) fun u => onO (sval (ev t y)) fun v => xbin P op ty x y u v fun r => K (lift r) h n) ∨ (sval (ev t x) = none ∧ afnil P op ty (ev t x) (ev t y) fun r => K r h n)
 | .lookup ty x i ok => ok = false ∧ alook P ty (ev t x) (ev t i) fun r => K r h n
 | .unOp op _ x => onO (sval (ev t x)) fun u => xun op u fun r => K (lift r) h n
 | .convert src dst x => match sval (ev t x) with
   | some u => scl P (convert src dst u) fun r => K r h n
   | none => onO (rowsOf 1 (ev t x)) fun rows => onO (byteRows rows) fun ns => bsP P src dst = true ∧ K (.d (.v (.string (strOf ns)))) h n
 | .makeInterface ty x => onO (sval (ev t x)) fun u => scl P (Instr.makeInterface ty u) fun r => K r h n
 | .index ty x i => strP P ty = true ∧ onO (sval (ev t x)) fun u => onO (aint (ev t i)) fun i => match u with
   | .string s => (0 ≤ i ∧ i < s.size) ∧ K (.d (.v (.int .u8 (byteAt s i)))) h n
   | _ => False
 | .field ty x f => onO (fieldP P ty f) fun q => infoP P q.2 = true ∧ match ev t x with
   | .agg cs => (q.1 ≤ cs.length ∧ q.1 + sizeP P q.2 ≤ cs.length) ∧ xpack P q.2 (cs.drop q.1) fun r => K r h n
   | _ => False
 | .slice ty x lo hi none => onInt t lo fun lo => onInt t hi fun hi => xsl P ty (ev t x) lo hi fun r => K r h n
 | .alloc ty => onO (zeroA P ty) fun cs => K (.p n 0) (upd h n (.box cs)) (n + 1)
 | .box ty x => onO (cellsA (ev t x)) fun cs => K (.p n 0) (upd h n (.box cs)) (n + 1)
 | .store ty x y => infoP P ty = true ∧ match ev t x with
   | .p i off => onBox (h i) fun old => onO (cellsA (ev t y)) fun cs => cs.length = sizeP P ty ∧ off + cs.length ≤ old.length ∧ T i ∧ K .any (upd h i (.box (splice old off cs))) n
   | _ => False
 | .build ty parts => fieldsOk P ty = true ∧ onO (zeroA P ty) fun cs => xbuild (placeP P ty) (parts.toList.map fun p => (p.1, ev t p.2)) cs fun r => K r h n
 | .buildSlice ty len parts => onO (sliceP P ty) fun e => infoP P e = true ∧ (zeroA P e).isSome = true ∧ parts.toList.map (·.1) = List.range len ∧ len * sizeP P e ≤ 16777216 ∧ onO (rowsA (sizeP P e) (parts.toList.map fun p => ev t p.2)) fun rows =>
    if len = 0 then K (.own n (sizeP P e) []) (upd h n (.tok 0 (sizeP P e))) (n + 1) else K (.d (.sl (sizeP P e) rows)) h n
 | .call c => match c.callee with
   | .builtin .append => match c.args.toList with
     | [s, x] => match c.argTypes.toList with
       | [t1, t2] => t1 = t2 ∧ xappend P t1 (ev t s) (ev t x) h n T K
       | _ => False
     | _ => False
   | .builtin b => xbi P b c ty t fun r => K r h n
   | .value f => xcall C (ev t f) (c.args.toList.map (ev t)) h n T K
   | _ => False
 | _ => False
def xops (P : Program) (C : Tb) (T : List Nat) (all : Array Oper) : List Oper → St → (St → Prop) → Prop
 | [], s, K => K s
 | o :: rest, s, K => match o.guard with
   | none => xop P C o.op o.type s.t s.h s.n (may T s.b) fun r h' n' => xops P C T all rest ⟨putT s.t o.dst r, h', s.b, n'⟩ K
   | some g => onO ((all[g.1]?).bind (·.dst)) fun d => onG (s.t.getD d .any) (fun q => match g.2 with
     | true => onQ q (xop P C o.op o.type (s.t.set d (.d (.v (.bool true)))) s.h s.n (may T s.b) fun r h' n' => xops P C T all rest ⟨putT (s.t.set d (.d (.v (.bool true)))) o.dst r, h', s.b, n'⟩ K)
        (xops P C T all rest ⟨putT (s.t.set d (.d (.v (.bool false)))) o.dst (.tup []), s.h, s.b, s.n⟩ K)
     | false => onQ q (xops P C T all rest ⟨putT (s.t.set d (.d (.v (.bool true)))) o.dst (.tup []), s.h, s.b, s.n⟩ K)
        (xop P C o.op o.type (s.t.set d (.d (.v (.bool false)))) s.h s.n (may T s.b) fun r h' n' => xops P C T all rest ⟨putT (s.t.set d (.d (.v (.bool false)))) o.dst r, h', s.b, n'⟩ K)) (xops P C T all rest ⟨putT s.t o.dst (.tup []), s.h, s.b, s.n⟩ K)
def xcallQ (C : Tb) (f : AV) (args : List AV) (h : AH) (n : Nat) (K : AV → Prop) : Prop := match f with
 | .fn (.func g) [] caps => (C g).tch (args ++ caps) = [] ∧ ∃ x, (C g).ok (args ++ caps) h n (fun r _ _ => r = .d (.v x)) ∧ K (.d (.v x))
 | _ => False
def quietOp : Op → Bool
 | .alloc _ => false
 | .box _ _ => false
 | .store _ _ _ => false
 | .build _ _ => false
 | .buildSlice _ _ _ => false
 | _ => true
def xopQ (P : Program) (C : Tb) (op : Op) (ty : TypeId) (t : List AV) (h : AH) (n : Nat) (K : AV → Prop) : Prop := match op with
 | .call c => match c.callee with
   | .builtin .append => False
   | .builtin b => xbi P b c ty t K
   | .value f => xcallQ C (ev t f) (c.args.toList.map (ev t)) h n K
   | _ => False
 | op => quietOp op = true ∧ xop P C op ty t h n (fun _ => False) fun r _ _ => K r
def xopsQ (P : Program) (C : Tb) (all : Array Oper) : List Oper → St → (St → Prop) → Prop
 | [], s, K => K s
 | o :: rest, s, K => match o.guard with
   | none => xopQ P C o.op o.type s.t s.h s.n fun r => xopsQ P C all rest ⟨putT s.t o.dst r, s.h, s.b, s.n⟩ K
   | some g => onO ((all[g.1]?).bind (·.dst)) fun d => onG (s.t.getD d .any) (fun q => match g.2 with
     | true => onQ q (xopQ P C o.op o.type (s.t.set d (.d (.v (.bool true)))) s.h s.n fun r => xopsQ P C all rest ⟨putT (s.t.set d (.d (.v (.bool true)))) o.dst r, s.h, s.b, s.n⟩ K)
        (xopsQ P C all rest ⟨putT (s.t.set d (.d (.v (.bool false)))) o.dst (.tup []), s.h, s.b, s.n⟩ K)
     | false => onQ q (xopsQ P C all rest ⟨putT (s.t.set d (.d (.v (.bool true)))) o.dst (.tup []), s.h, s.b, s.n⟩ K)
        (xopQ P C o.op o.type (s.t.set d (.d (.v (.bool false)))) s.h s.n fun r => xopsQ P C all rest ⟨putT (s.t.set d (.d (.v (.bool false)))) o.dst r, s.h, s.b, s.n⟩ K)) (xopsQ P C all rest ⟨putT s.t o.dst (.tup []), s.h, s.b, s.n⟩ K)
end Go.R
end
