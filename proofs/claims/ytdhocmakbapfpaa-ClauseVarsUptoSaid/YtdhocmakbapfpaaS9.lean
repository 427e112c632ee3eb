import Derived.Test.YtdhocmakbapfpaaS8
import Derived.Test.YtdhocmakbapfpaaS3
import Derived.Test.YtdhocmakbapfpaaS7
import Derived.ChangeSame
import Derived.RowKit3
import Derived.Below
set_option linter.unusedVariables false
set_option linter.unusedSimpArgs false
section
namespace Go.Proofs.Ytdhocmakbapfpaa.M
open Go.R Go.RowKit
def u8Row (c : Int) : List DV := [.v (.int .u8 c)]
theorem wp_two {P : Program} {id : Nat} {o1 o2 : Oper} {Q : Exit → Act → World → Prop} {a : Act} {w : World} (g1 : o1.guard = none) (g2 : o2.guard = none)
 (h : o1.wp P a w (fun a' w' => o2.wp P a' w' (Q .normal) Q) Q) : (Code.region id #[o1, o2] false).wp P Q a w := by
 refine wp_region ?_
 show wpOps P #[o1, o2] Q [0, 1] a w
 simp only [wpOps, List.getElem?_toArray, List.getElem?_cons_zero, List.getElem?_cons_succ]
 rw [if_pos (by simp [Region.wanted, g1])]
 refine .inl (Oper.wp_mono ?_ h)
 intro a' w' h'
 rw [if_pos (by simp [Region.wanted, g2])]
 exact .inl h'
theorem wp_val {P : Program} {o : Oper} {a : Act} {w : World} {next : Act → World → Prop} {Q : Exit → Act → World → Prop} {v : Value} (h : (execOp a.eval o).run P w = .ok (.value v) w) (k : next (a.put o.dst v) w) : o.wp P a w next Q := by
 unfold Oper.wp
 rw [h]
 exact k
theorem wp_enter {P : Program} {o : Oper} {a : Act} {w : World} {next : Act → World → Prop} {Q : Exit → Act → World → Prop} {f : FuncId} {args : Array Value} (h : (execOp a.eval o).run P w = .ok (.enter f args) w)
 (k : Calls P f args w fun e w' => ∃ v, e = .returned v ∧ next (a.put o.dst v) w') : o.wp P a w next Q := by
 unfold Oper.wp
 rw [h, Oper.upon_enter]
 refine k.mono fun e w' he => ?_
 obtain ⟨v, rfl, h⟩ := he
 exact h
theorem heap_putRow {α : Type} [Inhabited α] (enc : α → Value) (w : World) (blk off : Nat) (d : Array α) {b : Nat} (h : b ≠ blk) : (Sort.putRow enc w blk off d).heap[b]? = w.heap[b]? := by
 simp [Sort.putRow, Sort.mapBlock, Array.getElem?_modify, Ne.symm h]
theorem size_putRow {α : Type} [Inhabited α] (enc : α → Value) (w : World) (blk off : Nat) (d : Array α) : (Sort.putRow enc w blk off d).heap.size = w.heap.size := by
 simp [Sort.putRow, Sort.mapBlock]
theorem AW.rev {C : Tb} {T : List Nat} {s : St} {Q : Exit → St → Prop} {id : Nat} {o1 o2 : Oper} {ts : Array TypeId} {j d1 d2 k : Nat} {zs : List Int} (g1 : o1.guard = none) (g2 : o2.guard = none)
 (e1 : o1.op = .move (.tmp j)) (e1d : o1.dst = some d1) (e2 : o2.op = .call { callee := .value (.func 111), args := #[.tmp d1], argTypes := ts }) (e2d : o2.dst = some d2) (hj1 : j ≠ d1) (hj2 : j ≠ d2)
 (hj : s.t[j]? = some (.own k 1 (zs.map u8Row))) (hz : zs ≠ []) (hh : s.h = upd (fun _ => .no) k (.tok zs.length 1)) (hb : s.b ≤ k) (hl : d1 < s.t.length) (h1000 : zs.length ≤ 1000)
 (hv : ∀ i x, s.t[i]? = some x → i ≠ j → x = .any ∨ ∃ v, x = .d (.v v))
 (hQ : Q .normal ⟨((s.t.set d1 .any).set d2 .any).set j (.d (.sl 1 (zs.reverse.map u8Row))), fun _ => .no, s.b, s.n⟩) : AW Try.prog C T (.region id #[o1, o2] false) Q s := by
 intro c0 h0 w0 c a w hC I
 refine wp_two g1 g2 ?_
 have hjl : j < a.tmps.size := by rw [I.srep.size]; exact (List.getElem?_eq_some_iff.1 hj).1
 have hd1 : d1 < a.tmps.size := by rw [I.srep.size]; exact hl
 obtain ⟨v, hvj⟩ : ∃ v, a.tmps[j]? = some v := ⟨_, Array.getElem?_eq_getElem hjl⟩
 have hrep := I.srep.tmp j v _ hvj hj
 have hev : a.eval (.tmp j) = v := by simp [Act.eval, hvj]
 generalize hxs : zs.map u8Row = xs at hrep
 cases hrep with
 | own A cap k' z xs' m hd hk hm hτ =>
   have hlen : xs.length = zs.length := by rw [← hxs, List.length_map]
   have hzl : 0 < zs.length := List.length_pos_iff.2 hz
   rw [hh, upd_same] at hk
   have hkm : zs.length = m := by injection hk
   have hτ' := hτ (by omega)
   generalize hz1 : (.sl 1 xs : DV) = zz at hd
   generalize hvv : (.slice A xs.length cap : Value) = vv at hd
   cases hd with
   | v x h1 => cases hz1
   | sl A' cap' z' rows f hc hz' hA hN hcell hdrep =>
     cases hz1
     simp only [Value.slice.injEq] at hvv
     obtain ⟨rfl, _, rfl⟩ := hvv
     cases A with
     | none =>
       have := (hN rfl).1
       rw [this] at hlen
       simp at hlen
       omega
     | some ad =>
       have hsp := (hA ad rfl).resolve_right (by omega)
       obtain ⟨blk, off, sp⟩ := ad
       simp only at hsp
       subst hsp
       have hks : s.h k = .tok zs.length 1 := by rw [hh, upd_same]
       obtain ⟨_, t2, t3, vals, ty, t4, t5⟩ := I.srep.wd.tokS k zs.length 1 _ _ hks hτ'
       simp only [Nat.mul_one] at t3 t5
       have hblkw : blk < w.heap.size := (Array.getElem?_eq_some_iff.1 t4).1
       have hblk0 : w0.heap.size ≤ blk := by
        refine Nat.le_of_not_lt fun hlt => ?_
        have hb1 : (s.h k).blk c k = some blk := by rw [hks]; simp [AO.blk, hτ']
        have := I.fr.old k blk hb1 hlt
        rw [I.new0 k hb] at this
        cases this
       have hcells : ∀ i, i < zs.length → w.cell? ⟨blk, off + i, none⟩ = some (.int .u8 (zs.getD i 0)) := fun i hi => by
        have hrow : xs[i]? = some (u8Row (zs.getD i 0)) := by
         rw [← hxs, List.getElem?_map, List.getElem?_eq_getElem hi, List.getD_eq_getElem?_getD, List.getElem?_eq_getElem hi]
         rfl
        have h1 := (hcell _ rfl i 0 _ (.v (.int .u8 (zs.getD i 0))) hrow rfl).1
        have h2 := hdrep i 0 _ (.v (.int .u8 (zs.getD i 0))) hrow rfl
        have e : f i 0 = .int .u8 (zs.getD i 0) := by
         generalize f i 0 = q at h2
         cases h2
         rfl
        rw [e] at h1
        simpa using h1
       have hH : Sort.Holds (Value.int .u8) w blk off zs.toArray := by
        intro i hi
        have hi : i < zs.length := by simpa using hi
        refine ⟨?_, ?_⟩
        · rw [hcells i hi]
          simp [List.getD_eq_getElem?_getD, List.getElem?_eq_getElem hi, hi]
        · simp [World.frozen?, t4]
       have hcon := AnyE.slices_Reverse Go.Proofs.Try.lrev (Value.int .u8) (fun _ => rfl) blk off cap zs w hH (by omega)
       change Calls Try.prog 111 _ _ _ at hcon
       have hv' : a.tmps[j]? = some (.slice (some ⟨blk, off, none⟩) zs.length cap) := by rw [hvj, hlen]
       have run1 : (execOp a.eval o1).run Try.prog w = .ok (.value (.slice (some ⟨blk, off, none⟩) zs.length cap)) w := by
        have : a.eval (.tmp j) = .slice (some ⟨blk, off, none⟩) zs.length cap := by simp [Act.eval, hv']
        simp only [execOp, e1, this]
        rfl
       refine wp_val run1 ?_
       rw [e1d]
       have ev1 : (a.put (some d1) (.slice (some ⟨blk, off, none⟩) zs.length cap)).eval (.tmp d1) = .slice (some ⟨blk, off, none⟩) zs.length cap := by
        simp [Act.eval, Act.put, hd1]
       have run2 : (execOp (a.put (some d1) (.slice (some ⟨blk, off, none⟩) zs.length cap)).eval o2).run Try.prog w = .ok (.enter 111 #[.slice (some ⟨blk, off, none⟩) zs.length cap]) w := by
        have hent : Entered Try.prog 111 := Entered.of Try.func111 rfl (by kernel_rfl)
        simp only [execOp, e2, resolve, Deferred.ofValue, Sem.run_bind, Sem.run_pure, Result.andThen_ok, invoke]
        have := hent #[.slice (some ⟨blk, off, none⟩) zs.length cap] w
        simp [Act.eval, Act.put, hd1, Deferred.ofValue]
       refine wp_enter run2 (hcon.mono fun e w' he => ?_)
       obtain ⟨rfl, nn, hw'⟩ := he
       refine ⟨_, rfl, ?_⟩
       rw [e2d]
       replace hw' := hw'.symm
       have hH' := Sort.holds_putRow (Value.int .u8) (Sort.ahead w nn) blk off zs.toArray zs.reverse.toArray (Sort.holds_ahead _ _ _ _ _ _ hH) (by simp)
       rw [hw'] at hH'
       have hsz : w'.heap.size = w.heap.size := by rw [← hw', size_putRow]; rfl
       have hother : ∀ b, b ≠ blk → w'.heap[b]? = w.heap[b]? := fun b hb => by rw [← hw', heap_putRow _ _ _ _ _ hb]; rfl
       have hcellO : ∀ o, (o < off ∨ off + zs.length ≤ o) → w'.cell? ⟨blk, o, none⟩ = w.cell? ⟨blk, o, none⟩ := fun o ho => by
        rw [← hw', Sort.cell?_putRow_other _ _ _ _ _ _ (by right; simpa using ho)]
        rfl
       have hos : w'.os = w.os ∧ w'.tape = w.tape ∧ w'.output = w.output := by rw [← hw']; exact ⟨rfl, rfl, rfl⟩
       have hw0blk : ∀ o, w0.cell? ⟨blk, o, none⟩ = none := fun o => by
        simp [World.cell?, Array.getElem?_eq_none hblk0]
       have hcell0 : ∀ b o, c0.lo b o → w'.cell? ⟨b, o, none⟩ = w0.cell? ⟨b, o, none⟩ := fun b o hlo => by
        have h1 := I.ext.cell b o hlo
        by_cases hbb : b = blk
        · subst hbb
          rw [hw0blk] at h1
          by_cases ho : o < off ∨ off + zs.length ≤ o
          · rw [hcellO o ho, h1, hw0blk]
          · exfalso
            obtain ⟨i, rfl⟩ : ∃ i, o = off + i := ⟨o - off, by omega⟩
            rw [hcells i (by omega)] at h1
            cases h1
        · rw [← h1]
          simp [World.cell?, hother b hbb]
       refine ⟨c, ⟨((s.t.set d1 .any).set d2 .any).set j (.d (.sl 1 (zs.reverse.map u8Row))), fun _ => .no, s.b, s.n⟩, ?_, rfl, by simp, hQ⟩
       have hnoh : ∀ i, s.h i ≠ .no → i = k := fun i hi => by
        refine Classical.byContradiction fun hne => hi ?_
        rw [hh, upd_ne _ _ hne]
       refine ⟨⟨by simp [Act.put, I.srep.size], fun i u x hu hx => ?_, I.srep.defers, ?_⟩, ⟨hos.1.trans I.ext.os, hos.2.1.trans I.ext.tape, hos.2.2.trans I.ext.output, by rw [hsz]; exact I.ext.size, I.ext.lo, hcell0, fun b hb0 => ?_, fun i cs hi => ?_, fun i m' z' hi => ?_⟩, ⟨fun b hb0 hne => ?_, fun i b hi => by cases hi⟩, I.new0, I.le⟩
       ·
        by_cases hij : i = j
        · subst hij
          have : i < ((s.t.set d1 .any).set d2 .any).length := by have := (List.getElem?_eq_some_iff.1 hj).1; simpa using this
          rw [List.getElem?_set_self this] at hx
          cases hx
          have hu' : u = .slice (some ⟨blk, off, none⟩) zs.length cap := by
           simp only [Act.put] at hu
           rw [Array.getElem?_setIfInBounds_ne (Ne.symm hj2), Array.getElem?_setIfInBounds_ne (Ne.symm hj1), hv'] at hu
           cases hu
           rfl
          subst hu'
          have hl2 : zs.length = (zs.reverse.map u8Row).length := by simp
          have hcap : zs.length ≤ cap := by omega
          rw [hl2] at hcap ⊢
          refine .d _ _ (.sl _ cap 1 _ (fun i _ => .int .u8 (zs.reverse.getD i 0)) hcap (fun row hrow => ?_) (fun a ha => by cases ha; exact .inl rfl) (fun h => by cases h) (fun a ha i j row x hi hj => ?_) (fun i j row x hi hj => ?_))
          · obtain ⟨q, _, rfl⟩ := List.mem_map.1 hrow
            rfl
          · cases ha
            have hil : i < zs.length := by have := (List.getElem?_eq_some_iff.1 hi).1; simpa using this
            have hj0 : j = 0 := by
             rw [List.getElem?_map] at hi
             cases hq : zs.reverse[i]? with
             | none => rw [hq] at hi; cases hi
             | some q =>
               rw [hq] at hi
               cases hi
               match j with
               | 0 => rfl
               | j + 1 => simp [u8Row] at hj
            subst hj0
            have := (hH' i (by simpa using hil)).1
            simp only [Nat.mul_one, Nat.add_zero]
            refine ⟨?_, ?_⟩
            · rw [this]
              simp [List.getD_eq_getElem?_getD, hil]
            · unfold Cx.lo
              rw [t3]
              simp only
              omega
          · rw [List.getElem?_map] at hi
            cases hq : zs.reverse[i]? with
            | none => rw [hq] at hi; cases hi
            | some q =>
              rw [hq] at hi
              cases hi
              match j with
              | 0 =>
                simp only [u8Row, List.getElem?_cons_zero, Option.some.injEq] at hj
                subst hj
                rw [List.getD_eq_getElem?_getD, hq]
                exact .v _ rfl
              | j + 1 => simp [u8Row] at hj
        · rw [List.getElem?_set_ne (Ne.symm hij)] at hx
          by_cases hid2 : i = d2
          · subst hid2
            have : i < (s.t.set d1 .any).length := by
             refine Nat.lt_of_not_le fun hle => ?_
             rw [List.getElem?_eq_none (by simpa using hle)] at hx
             cases hx
            rw [List.getElem?_set_self this] at hx
            cases hx
            exact .any _
          · rw [List.getElem?_set_ne (Ne.symm hid2)] at hx
            by_cases hid1 : i = d1
            · subst hid1
              rw [List.getElem?_set_self hl] at hx
              cases hx
              exact .any _
            · rw [List.getElem?_set_ne (Ne.symm hid1)] at hx
              have hu' : a.tmps[i]? = some u := by
               simp only [Act.put] at hu
               rw [Array.getElem?_setIfInBounds_ne (Ne.symm hid2), Array.getElem?_setIfInBounds_ne (Ne.symm hid1)] at hu
               exact hu
              rcases hv i x hx hij with rfl | ⟨y, rfl⟩
              · exact .any _
              · have hr := I.srep.tmp i u _ hu' hx
                cases hr with
                | d _ _ hd' =>
                  cases hd' with
                  | v x h1 => exact .d _ _ (.v _ h1)
       · exact ⟨fun i cs hi => (by cases hi), fun i m z cap hi _ => (by cases hi), fun i m z a cap hi _ => (by cases hi), fun i j b _ hi _ => (by cases hi), fun b hb0 => I.srep.wd.fresh b (by rw [← hsz]; exact hb0), fun _ _ => rfl⟩
       · obtain ⟨g1, g2⟩ := I.ext.all b hb0
         refine ⟨g1, ?_⟩
         rw [hother b (fun e => by subst e; rw [t3] at g1; cases g1), g2]
       · obtain ⟨_, cs', g2⟩ := I.ext.box i cs hi
         have := hnoh i (by rw [g2]; simp)
         subst this
         rw [hks] at g2
         cases g2
       · obtain ⟨n', g1, _⟩ := I.ext.tok i m' z' hi
         have := hnoh i (by rw [g1]; simp)
         subst this
         rw [I.new0 i hb] at hi
         cases hi
       · rw [hother b (by omega)]
         exact I.fr.far b hb0 hne
theorem of_AWP {P : Program} {F : Ft} {f : FuncId} {fn : Func} {code : Code} {S : Fs} (g : List AV → Option AV) (hf : P.funcs[f]? = some fn) (hbody : fn.body = some code) (hn : (fn.name == "runtime.NumGoroutine") = false) {rs : List ResultVar} {nt : Nat} (hrs : fn.results = rs.toArray) (hnt : fn.ntmps = nt) (hF : FtOk P F)
 (hS : ∀ args h n, S.run args h n = (g args).map fun r => (r, h, n))
 (H : ∀ args h n r, S.pre args h n → g args = some r → HOk n h → ∃ args', leL args args' ∧ (nt ≤ 900000 ∧ args'.length ≤ 50000) ∧
   AW P F.tb (S.tch args) code (FinP P rs n h r) ⟨args' ++ List.replicate (nt - args'.length) .any, h, n, n⟩) : FsOk P f S := by
 subst hnt
 refine SpOk.of_code hf hbody hn hF fun args h n K hS' hno hbx => ?_
 have hok : HOk n h := ⟨hno, hbx⟩
 rw [hrs]
 obtain ⟨hpre, hrun⟩ := hS'
 obtain ⟨⟨r, h', n'⟩, hr, hK⟩ := onO_iff hrun
 rw [hS] at hr
 cases hg : g args with
 | none => simp [hg] at hr
 | some r' =>
   simp only [hg, Option.map_some, Option.some.injEq, Prod.mk.injEq] at hr
   obtain ⟨rfl, rfl, rfl⟩ := hr
   obtain ⟨args', hle, ⟨hl1, hl2⟩, hX⟩ := H args _ _ _ hpre hg hok
   refine ⟨args', fun c w vs hl hr => leL_rep hle hl hr, ?_⟩
   refine hX.mono fun e s' _ _ q => ?_
   obtain ⟨q1, q2, q3, q4, q5⟩ := q
   cases hres : resO P s'.t s'.h rs with
   | none => rw [hres] at q3; exact q3.elim
   | some l =>
     rw [hres] at q3
     exact ⟨q1, res_ares q2 hres (AFin.pure hno q4 q3 q5 hK)⟩
theorem AW.step {P : Program} {E : EqT P} {F : Ft} {T : List Nat} {x y : Code} {Q : Exit → St → Prop} {s : St} (f : Nat) (hl : s.t.length ≤ 1000000) (h : X E F T (fun e s' => match e with
 | .normal => AW P F.tb T y Q s'
 | e => Q e s') f (.code x) [] s) : AW P F.tb T (.seq x y) Q s := AW.seq (AW.of_X f hl h)
def digits0S : Fs := ⟨fun args h n => (g1 aI64 (fun n => vS (numText n)) args).map fun r => (r, h, n), fun args h n => g1p aI64 i64 args ∧ h = (fun _ => .no) ∧ n = 0, fun _ => []⟩
theorem byteRows_u8 : ∀ l : List Int, byteRows (l.map u8Row) = some l
 | [] => rfl
 | c :: l => by simp [byteRows, u8Row, byteRows_u8 l]
def digSt (m : Nat) (sg : ByteArray) (zs : List Int) : St := ⟨fr [(3, .d (.v (.int .u64 m))), (4, vS sg), (5, .own 0 1 (zs.map u8Row))] (List.replicate 34 .any), upd (fun _ => .no) 0 (.tok zs.length 1), 0, 1⟩
theorem dig_slots (m : Nat) (sg : ByteArray) (zs : List Int) : ∀ i x, (digSt m sg zs).t[i]? = some x → i ≠ 5 → x = .any ∨ ∃ v, x = .d (.v v) := by
 intro i x hi h5
 simp only [digSt, fr] at hi
 rw [List.getElem?_set_ne (Ne.symm h5)] at hi
 by_cases h4 : i = 4
 · subst h4
   rw [List.getElem?_set_self (by simp)] at hi
   cases hi
   exact .inr ⟨_, rfl⟩
 rw [List.getElem?_set_ne (Ne.symm h4)] at hi
 by_cases h3 : i = 3
 · subst h3
   rw [List.getElem?_set_self (by simp)] at hi
   cases hi
   exact .inr ⟨_, rfl⟩
 rw [List.getElem?_set_ne (Ne.symm h3), List.getElem?_replicate] at hi
 split at hi
 · cases hi; exact .inl rfl
 · cases hi
set_option maxRecDepth 10000 in
set_option maxHeartbeats 4000000 in
theorem digits0_ok : FsOk Try.prog 105 digits0S := by
 refine of_AWP (F := Ft.no) (g1 aI64 fun n => vS (numText n)) Try.func105 rfl (by kernel_rfl) (rs := [.tmp 2]) rfl Try.ntmps105 (FtOk.no _) (fun _ _ _ => rfl) ?_
 intro args h n r hp hg hok
 obtain ⟨hp, rfl, rfl⟩ := hp
 obtain ⟨x, v, rfl, hx, rfl⟩ := g1_eq hg
 obtain ⟨hv1, hv2⟩ := hp v hx
 refine ⟨[vI v], ⟨aI64_le hx, trivial⟩, ⟨by decide, by simp⟩, ?_⟩
 show AW Try.prog Ft.no.tb [] _ _ _
 obtain ⟨m0, hm0⟩ : ∃ m0 : Nat, m0 = v.natAbs := ⟨_, rfl⟩
 obtain ⟨sg, hsg⟩ : ∃ sg : ByteArray, sg = if v < 0 then ⟨#[45]⟩ else ⟨#[]⟩ := ⟨_, rfl⟩
 have hsgs : sg.size ≤ 1 := by rw [hsg]; split <;> decide
 have hlen : (decL m0).length ≤ 20 := decL_len 19 m0 (by omega)
 have hpos : 0 < (decL m0).length := by rw [decL]; split <;> simp
 have htxt : numText v = sg ++ strOf (decL m0) := by
  unfold numText
  rw [hsg]
  by_cases hn : v < 0
  · rw [if_pos hn, if_pos hn]
    have e : (-v).toNat = m0 := by omega
    rw [e]
    exact strOf_append [45] (decL m0)
  · rw [if_neg hn, if_neg hn]
    have e : v.toNat = m0 := by omega
    rw [e]
    refine ByteArray.ext ?_
    simp [ByteArray.data_append]
 refine AW.step (E := EqT.no _) 4000 (by simp only [List.length_cons, List.length_nil, List.length_set, List.length_append, List.length_replicate]; decide) ?_
 repeat' (first | (with_reducible first | refine XG_split (fun hq => ?_) (fun hq => ?_) | refine MX1.of 4000 (by simp) ?_ | refine MX2.of 4000 (by simp) ?_ | refine And.intro ?_ ?_) | ((with_reducible first | refine Or.inl (And.intro (And.intro mixedP ?_) ?_) | refine Or.inl (And.intro mixedP ?_)); kernel_rfl) | simp only [go_sem,Nat.reduceEqDiff,Nat.reduceAdd,Nat.reduceMul,Nat.reduceLeDiff,Int.reduceBEq])
 refine AW.step (E := EqT.no _) 4000 (by simp only [List.length_cons, List.length_nil, List.length_set, List.length_append, List.length_replicate]; decide) ?_
 repeat' (first | (with_reducible first | refine XG_split (fun hq => ?_) (fun hq => ?_) | refine MX1.of 4000 (by simp) ?_ | refine MX2.of 4000 (by simp) ?_ | refine And.intro ?_ ?_) | ((with_reducible first | refine Or.inl (And.intro (And.intro mixedP ?_) ?_) | refine Or.inl (And.intro mixedP ?_)); kernel_rfl) | simp only [go_sem,Nat.reduceEqDiff,Nat.reduceAdd,Nat.reduceMul,Nat.reduceLeDiff,Int.reduceBEq])
 refine AW.step (E := EqT.no _) 4000 (by simp only [List.length_cons, List.length_nil, List.length_set, List.length_append, List.length_replicate]; decide) ?_
 have c64 : IntKind.wrap .u64 v = if v < 0 then v + 18446744073709551616 else v := by rw [IntKind.wrap_u64]; split <;> omega
 have n64 : v < 0 → IntKind.wrap .u64 (0 - (v + 18446744073709551616)) = (m0 : Int) := fun h => by rw [IntKind.wrap_u64]; omega
 have body : ∀ (s0 : St), s0.h = (fun _ => .no) → s0.b = 0 → s0.n = 0 → Wk [] s0 ⟨fr [(3, .d (.v (.int .u64 m0))), (4, vS sg)] (List.replicate 34 .any), fun _ => .no, 0, 0⟩ → True := fun _ _ _ _ _ => trivial
 by_cases hn : v < 0
 · have d0 : decide (v < 0) = true := decide_eq_true hn
   have hs1 : sg = ⟨#[45]⟩ := by rw [hsg, if_pos hn]
   rw [if_pos hn] at c64
   have n64 := n64 hn
   repeat' (first | (with_reducible first | refine XG_split (fun hq => ?_) (fun hq => ?_) | refine MX1.of 4000 (by simp) ?_ | refine MX2.of 4000 (by simp) ?_ | refine And.intro ?_ ?_) | ((with_reducible first | refine Or.inl (And.intro (And.intro mixedP ?_) ?_) | refine Or.inl (And.intro mixedP ?_)); kernel_rfl) | simp only [go_sem,Nat.reduceEqDiff,Nat.reduceAdd,Nat.reduceMul,Nat.reduceLeDiff,Int.reduceBEq,d0,c64,n64])
   refine AW.step (E := EqT.no _) 4000 (by simp only [List.length_cons, List.length_nil, List.length_set, List.length_append, List.length_replicate]; decide) ?_
   repeat' (first | (with_reducible first | refine XG_split (fun hq => ?_) (fun hq => ?_) | refine MX1.of 4000 (by simp) ?_ | refine MX2.of 4000 (by simp) ?_ | refine And.intro ?_ ?_) | ((with_reducible first | refine Or.inl (And.intro (And.intro mixedP ?_) ?_) | refine Or.inl (And.intro mixedP ?_)); kernel_rfl) | simp only [go_sem,Nat.reduceEqDiff,Nat.reduceAdd,Nat.reduceMul,Nat.reduceLeDiff,Int.reduceBEq])
   refine AW.wk (Wk.nil (j := 5) 1 rfl) ?_
   refine AW.step (E := EqT.no _) 4000 (by simp only [List.length_cons, List.length_nil, List.length_set, List.length_append, List.length_replicate]; decide) ?_
   repeat' (first | (with_reducible first | refine XG_split (fun hq => ?_) (fun hq => ?_) | refine MX1.of 4000 (by simp) ?_ | refine MX2.of 4000 (by simp) ?_ | refine And.intro ?_ ?_) | ((with_reducible first | refine Or.inl (And.intro (And.intro mixedP ?_) ?_) | refine Or.inl (And.intro mixedP ?_)); kernel_rfl) | simp only [go_sem,Nat.reduceEqDiff,Nat.reduceAdd,Nat.reduceMul,Nat.reduceLeDiff,Int.reduceBEq])
   refine AW.loopJ (E := EqT.no _) (S := fun x : Nat × List Int => digSt x.1 sg x.2) (I := fun x => x.1 ≤ m0 ∧ (x.2 = [] → x.1 = m0) ∧ (x.2 ≠ [] → (if x.1 = 0 then [] else decL x.1) ++ x.2.reverse = decL m0)) (μ := fun x => if x.2 = [] then x.1 + 1 else x.1) (m0, []) ⟨Nat.le_refl _, fun _ => rfl, fun h => absurd rfl h⟩ ?_ 4000 (fun _ => by simp only [digSt, fr_len, List.length_replicate]; decide) ?_
   · refine Wk.same (by simp only [go_sem, digSt, hs1, List.map_nil]) ⟨fun i hi => by rw [upd_ne _ _ (by omega)], fun i cs hi => by simp only [upd] at hi; split at hi <;> cases hi⟩ (by omega) (by simp only [go_sem, digSt, List.map_nil]; omega)
   · rintro ⟨m, zs⟩ ⟨hm, hI1, hI2⟩
     simp only at hm hI1 hI2
     have hm18 : m ≤ 9223372036854775808 := by omega
     have w1 : IntKind.wrap .u64 (48 + ((m % 10 : Nat) : Int)) = 48 + ((m % 10 : Nat) : Int) := by rw [IntKind.wrap_u64]; omega
     have w2 := dig_u8 m
     have w3 : IntKind.wrap .u64 ((m / 10 : Nat) : Int) = ((m / 10 : Nat) : Int) := by rw [IntKind.wrap_u64]; omega
     have hHOk : ∀ k : Nat, HOk 1 (upd (fun _ => .no) 0 (.tok k 1)) := fun k => ⟨fun i hi => by rw [upd_ne _ _ (by omega)], fun i cs hi => by simp only [upd] at hi; split at hi <;> cases hi⟩
     cases zs with
     | nil =>
       have hmm := hI1 rfl
       by_cases hmz : m = 0
       · have dm : decide (0 < m) = false := decide_eq_false (by omega)
         repeat' (first | (with_reducible first | refine XG_split (fun hq => ?_) (fun hq => ?_) | refine MX1.of 4000 (by simp) ?_ | refine MX2.of 4000 (by simp) ?_ | refine And.intro ?_ ?_) | ((with_reducible first | refine Or.inl (And.intro (And.intro mixedP ?_) ?_) | refine Or.inl (And.intro mixedP ?_)); kernel_rfl) | simp only [go_sem,Nat.reduceEqDiff,Nat.reduceAdd,Nat.reduceMul,Nat.reduceLeDiff,Int.reduceBEq,List.map_cons,List.map_nil,digSt,w1,w2,w3,dm])
         all_goals first | omega | (unfold maxLen; omega) | (right; omega) | (left; simp; done) | (simp only [wk3,wkL2,wk2,wkL,wk1_d,wk1_own,wk1_nil,and_self]; done) | (intro i hi; simp only [upd]; (repeat' split); all_goals first | rfl | omega) | skip
         all_goals exact ⟨(m / 10, [48 + ((m % 10 : Nat) : Int)]), ⟨by show m / 10 ≤ m0; omega, fun h => (by cases h), fun _ => by
          show (if m / 10 = 0 then [] else decL (m / 10)) ++ [48 + ((m % 10 : Nat) : Int)] = decL m0
          rw [← hmm, hmz]
          decide +kernel⟩, Wk.of (by simp only [go_sem, digSt, List.map_cons, List.map_nil, u8Row]) (by intro i hi; simp only [upd, digSt, List.length_cons, List.length_nil]; (repeat' split); all_goals first | rfl | omega) (hHOk _) (by omega) (by omega) (by simp only [go_sem, digSt]; omega), by show m / 10 < m + 1; omega⟩
       · have dm : decide (0 < m) = true := decide_eq_true (by omega)
         repeat' (first | (with_reducible first | refine XG_split (fun hq => ?_) (fun hq => ?_) | refine MX1.of 4000 (by simp) ?_ | refine MX2.of 4000 (by simp) ?_ | refine And.intro ?_ ?_) | ((with_reducible first | refine Or.inl (And.intro (And.intro mixedP ?_) ?_) | refine Or.inl (And.intro mixedP ?_)); kernel_rfl) | simp only [go_sem,Nat.reduceEqDiff,Nat.reduceAdd,Nat.reduceMul,Nat.reduceLeDiff,Int.reduceBEq,List.map_cons,List.map_nil,digSt,w1,w2,w3,dm])
         all_goals first | omega | (unfold maxLen; omega) | (right; omega) | (left; simp; done) | (simp only [wk3,wkL2,wk2,wkL,wk1_d,wk1_own,wk1_nil,and_self]; done) | (intro i hi; simp only [upd]; (repeat' split); all_goals first | rfl | omega) | skip
         refine ⟨(m / 10, [48 + ((m % 10 : Nat) : Int)]), ⟨by show m / 10 ≤ m0; omega, fun h => (by cases h), fun _ => ?_⟩, Wk.of (by simp only [go_sem, digSt, List.map_cons, List.map_nil, u8Row]) (by intro i hi; simp only [upd, digSt, List.length_cons, List.length_nil]; (repeat' split); all_goals first | rfl | omega) (hHOk _) (by omega) (by omega) (by simp only [go_sem, digSt]; omega), by show m / 10 < m + 1; omega⟩
         show (if m / 10 = 0 then [] else decL (m / 10)) ++ [48 + ((m % 10 : Nat) : Int)] = decL m0
         rw [← hmm]
         by_cases h10 : m / 10 = 0
         · rw [if_pos h10, decL_last m h10]; rfl
         · rw [if_neg h10, decL_step m (by omega)]
     | cons z zs =>
       have hE := hI2 (by simp)
       have hzl : (z :: zs).length ≤ 20 := by
        have := congrArg List.length hE
        rw [List.length_append, List.length_reverse] at this
        omega
       simp only [List.length_cons] at hzl
       have dl : ((zs.length : Int) + 1 == 0) = false := by rw [beq_eq_false_iff_ne]; omega
       by_cases hmz : m = 0
       · have dm : decide (0 < m) = false := decide_eq_false (by omega)
         rw [if_pos hmz, List.nil_append] at hE
         repeat' (first | (with_reducible first | refine XG_split (fun hq => ?_) (fun hq => ?_) | refine MX1.of 4000 (by simp) ?_ | refine MX2.of 4000 (by simp) ?_ | refine And.intro ?_ ?_) | ((with_reducible first | refine Or.inl (And.intro (And.intro mixedP ?_) ?_) | refine Or.inl (And.intro mixedP ?_)); kernel_rfl) | simp only [go_sem,Nat.reduceEqDiff,Nat.reduceAdd,Nat.reduceMul,Nat.reduceLeDiff,Int.reduceBEq,List.map_cons,List.map_nil,digSt,w1,w2,w3,dm,dl])
         all_goals first | omega | (unfold maxLen; omega) | (right; omega) | (left; simp; done) | (simp only [wk3,wkL2,wk2,wkL,wk1_d,wk1_own,wk1_nil,and_self]; done) | (intro i hi; simp only [upd]; (repeat' split); all_goals first | rfl | omega) | skip
         refine AW.wk (Wk.of (t1 := (digSt m sg (z :: zs)).t) (h1 := (digSt m sg (z :: zs)).h) (n1 := 1) (by simp only [go_sem, digSt, List.map_cons]) (fun i hi => rfl) (hHOk _) (Nat.le_refl _) (by omega) (by simp only [go_sem, digSt, List.map_cons]; omega)) ?_
         refine AW.seq ?_
         refine AW.rev (j := 5) (k := 0) (zs := z :: zs) rfl rfl rfl rfl rfl rfl (by decide) (by decide) rfl (by simp) rfl (Nat.le_refl _) (by simp only [digSt, fr_len, List.length_replicate]; decide) (by simp only [List.length_cons]; omega) (dig_slots m sg (z :: zs)) ?_
         show AW Try.prog Ft.no.tb [] _ _ _
         refine AW.of_X (E := EqT.no _) 4000 (by simp [digSt, fr_len]) ?_
         rw [hE]
         repeat' (first | (with_reducible first | refine XG_split (fun hq => ?_) (fun hq => ?_) | refine MX1.of 4000 (by simp) ?_ | refine MX2.of 4000 (by simp) ?_ | refine And.intro ?_ ?_) | ((with_reducible first | refine Or.inl (And.intro (And.intro mixedP ?_) ?_) | refine Or.inl (And.intro mixedP ?_)); kernel_rfl) | simp only [go_sem,Nat.reduceEqDiff,Nat.reduceAdd,Nat.reduceMul,Nat.reduceLeDiff,Int.reduceBEq,digSt,byteRows_u8])
         all_goals try simp only [strOf_size]
         all_goals first | omega | (unfold maxLen; omega) | (right; omega) | (left; simp; done) | (simp only [wk3,wkL2,wk2,wkL,wk1_d,wk1_own,wk1_nil,and_self]; done) | (intro i hi; simp only [upd]; (repeat' split); all_goals first | rfl | omega) | skip
         all_goals exact wk_v (congrArg Value.string htxt.symm)
       · have dm : decide (0 < m) = true := decide_eq_true (by omega)
         rw [if_neg hmz] at hE
         repeat' (first | (with_reducible first | refine XG_split (fun hq => ?_) (fun hq => ?_) | refine MX1.of 4000 (by simp) ?_ | refine MX2.of 4000 (by simp) ?_ | refine And.intro ?_ ?_) | ((with_reducible first | refine Or.inl (And.intro (And.intro mixedP ?_) ?_) | refine Or.inl (And.intro mixedP ?_)); kernel_rfl) | simp only [go_sem,Nat.reduceEqDiff,Nat.reduceAdd,Nat.reduceMul,Nat.reduceLeDiff,Int.reduceBEq,List.map_cons,List.map_nil,digSt,w1,w2,w3,dm,dl])
         all_goals first | omega | (unfold maxLen; omega) | (right; omega) | (left; simp; done) | (simp only [wk3,wkL2,wk2,wkL,wk1_d,wk1_own,wk1_nil,and_self]; done) | (intro i hi; simp only [upd]; (repeat' split); all_goals first | rfl | omega) | skip
         refine ⟨(m / 10, z :: zs ++ [48 + ((m % 10 : Nat) : Int)]), ⟨by show m / 10 ≤ m0; omega, fun h => (by simp at h), fun _ => ?_⟩, Wk.of (by simp only [go_sem, digSt, List.map_cons, List.map_nil, List.map_append, u8Row]) (by intro i hi; simp only [upd, digSt, List.length_cons, List.length_nil, List.length_append]; (repeat' split); all_goals first | rfl | omega) (hHOk _) (by omega) (by omega) (by simp only [go_sem, digSt]; omega), by simp; omega⟩
         show (if m / 10 = 0 then [] else decL (m / 10)) ++ (z :: zs ++ [48 + ((m % 10 : Nat) : Int)]).reverse = decL m0
         rw [← hE, List.reverse_append]
         by_cases h10 : m / 10 = 0
         · rw [if_pos h10, decL_last m h10]; rfl
         · rw [if_neg h10, decL_step m (by omega)]
           simp
 · have d0 : decide (v < 0) = false := decide_eq_false hn
   have hs1 : sg = ⟨#[]⟩ := by rw [hsg, if_neg hn]
   rw [if_neg hn] at c64
   have c64 : IntKind.wrap .u64 v = (m0 : Int) := by rw [c64]; omega
   repeat' (first | (with_reducible first | refine XG_split (fun hq => ?_) (fun hq => ?_) | refine MX1.of 4000 (by simp) ?_ | refine MX2.of 4000 (by simp) ?_ | refine And.intro ?_ ?_) | ((with_reducible first | refine Or.inl (And.intro (And.intro mixedP ?_) ?_) | refine Or.inl (And.intro mixedP ?_)); kernel_rfl) | simp only [go_sem,Nat.reduceEqDiff,Nat.reduceAdd,Nat.reduceMul,Nat.reduceLeDiff,Int.reduceBEq,d0,c64])
   refine AW.step (E := EqT.no _) 4000 (by simp only [List.length_cons, List.length_nil, List.length_set, List.length_append, List.length_replicate]; decide) ?_
   repeat' (first | (with_reducible first | refine XG_split (fun hq => ?_) (fun hq => ?_) | refine MX1.of 4000 (by simp) ?_ | refine MX2.of 4000 (by simp) ?_ | refine And.intro ?_ ?_) | ((with_reducible first | refine Or.inl (And.intro (And.intro mixedP ?_) ?_) | refine Or.inl (And.intro mixedP ?_)); kernel_rfl) | simp only [go_sem,Nat.reduceEqDiff,Nat.reduceAdd,Nat.reduceMul,Nat.reduceLeDiff,Int.reduceBEq])
   refine AW.wk (Wk.nil (j := 5) 1 rfl) ?_
   refine AW.step (E := EqT.no _) 4000 (by simp only [List.length_cons, List.length_nil, List.length_set, List.length_append, List.length_replicate]; decide) ?_
   repeat' (first | (with_reducible first | refine XG_split (fun hq => ?_) (fun hq => ?_) | refine MX1.of 4000 (by simp) ?_ | refine MX2.of 4000 (by simp) ?_ | refine And.intro ?_ ?_) | ((with_reducible first | refine Or.inl (And.intro (And.intro mixedP ?_) ?_) | refine Or.inl (And.intro mixedP ?_)); kernel_rfl) | simp only [go_sem,Nat.reduceEqDiff,Nat.reduceAdd,Nat.reduceMul,Nat.reduceLeDiff,Int.reduceBEq])
   refine AW.loopJ (E := EqT.no _) (S := fun x : Nat × List Int => digSt x.1 sg x.2) (I := fun x => x.1 ≤ m0 ∧ (x.2 = [] → x.1 = m0) ∧ (x.2 ≠ [] → (if x.1 = 0 then [] else decL x.1) ++ x.2.reverse = decL m0)) (μ := fun x => if x.2 = [] then x.1 + 1 else x.1) (m0, []) ⟨Nat.le_refl _, fun _ => rfl, fun h => absurd rfl h⟩ ?_ 4000 (fun _ => by simp only [digSt, fr_len, List.length_replicate]; decide) ?_
   · refine Wk.same (by simp only [go_sem, digSt, hs1, List.map_nil]) ⟨fun i hi => by rw [upd_ne _ _ (by omega)], fun i cs hi => by simp only [upd] at hi; split at hi <;> cases hi⟩ (by omega) (by simp only [go_sem, digSt, List.map_nil]; omega)
   · rintro ⟨m, zs⟩ ⟨hm, hI1, hI2⟩
     simp only at hm hI1 hI2
     have hm18 : m ≤ 9223372036854775808 := by omega
     have w1 : IntKind.wrap .u64 (48 + ((m % 10 : Nat) : Int)) = 48 + ((m % 10 : Nat) : Int) := by rw [IntKind.wrap_u64]; omega
     have w2 := dig_u8 m
     have w3 : IntKind.wrap .u64 ((m / 10 : Nat) : Int) = ((m / 10 : Nat) : Int) := by rw [IntKind.wrap_u64]; omega
     have hHOk : ∀ k : Nat, HOk 1 (upd (fun _ => .no) 0 (.tok k 1)) := fun k => ⟨fun i hi => by rw [upd_ne _ _ (by omega)], fun i cs hi => by simp only [upd] at hi; split at hi <;> cases hi⟩
     cases zs with
     | nil =>
       have hmm := hI1 rfl
       by_cases hmz : m = 0
       · have dm : decide (0 < m) = false := decide_eq_false (by omega)
         repeat' (first | (with_reducible first | refine XG_split (fun hq => ?_) (fun hq => ?_) | refine MX1.of 4000 (by simp) ?_ | refine MX2.of 4000 (by simp) ?_ | refine And.intro ?_ ?_) | ((with_reducible first | refine Or.inl (And.intro (And.intro mixedP ?_) ?_) | refine Or.inl (And.intro mixedP ?_)); kernel_rfl) | simp only [go_sem,Nat.reduceEqDiff,Nat.reduceAdd,Nat.reduceMul,Nat.reduceLeDiff,Int.reduceBEq,List.map_cons,List.map_nil,digSt,w1,w2,w3,dm])
         all_goals first | omega | (unfold maxLen; omega) | (right; omega) | (left; simp; done) | (simp only [wk3,wkL2,wk2,wkL,wk1_d,wk1_own,wk1_nil,and_self]; done) | (intro i hi; simp only [upd]; (repeat' split); all_goals first | rfl | omega) | skip
         all_goals exact ⟨(m / 10, [48 + ((m % 10 : Nat) : Int)]), ⟨by show m / 10 ≤ m0; omega, fun h => (by cases h), fun _ => by
          show (if m / 10 = 0 then [] else decL (m / 10)) ++ [48 + ((m % 10 : Nat) : Int)] = decL m0
          rw [← hmm, hmz]
          decide +kernel⟩, Wk.of (by simp only [go_sem, digSt, List.map_cons, List.map_nil, u8Row]) (by intro i hi; simp only [upd, digSt, List.length_cons, List.length_nil]; (repeat' split); all_goals first | rfl | omega) (hHOk _) (by omega) (by omega) (by simp only [go_sem, digSt]; omega), by show m / 10 < m + 1; omega⟩
       · have dm : decide (0 < m) = true := decide_eq_true (by omega)
         repeat' (first | (with_reducible first | refine XG_split (fun hq => ?_) (fun hq => ?_) | refine MX1.of 4000 (by simp) ?_ | refine MX2.of 4000 (by simp) ?_ | refine And.intro ?_ ?_) | ((with_reducible first | refine Or.inl (And.intro (And.intro mixedP ?_) ?_) | refine Or.inl (And.intro mixedP ?_)); kernel_rfl) | simp only [go_sem,Nat.reduceEqDiff,Nat.reduceAdd,Nat.reduceMul,Nat.reduceLeDiff,Int.reduceBEq,List.map_cons,List.map_nil,digSt,w1,w2,w3,dm])
         all_goals first | omega | (unfold maxLen; omega) | (right; omega) | (left; simp; done) | (simp only [wk3,wkL2,wk2,wkL,wk1_d,wk1_own,wk1_nil,and_self]; done) | (intro i hi; simp only [upd]; (repeat' split); all_goals first | rfl | omega) | skip
         refine ⟨(m / 10, [48 + ((m % 10 : Nat) : Int)]), ⟨by show m / 10 ≤ m0; omega, fun h => (by cases h), fun _ => ?_⟩, Wk.of (by simp only [go_sem, digSt, List.map_cons, List.map_nil, u8Row]) (by intro i hi; simp only [upd, digSt, List.length_cons, List.length_nil]; (repeat' split); all_goals first | rfl | omega) (hHOk _) (by omega) (by omega) (by simp only [go_sem, digSt]; omega), by show m / 10 < m + 1; omega⟩
         show (if m / 10 = 0 then [] else decL (m / 10)) ++ [48 + ((m % 10 : Nat) : Int)] = decL m0
         rw [← hmm]
         by_cases h10 : m / 10 = 0
         · rw [if_pos h10, decL_last m h10]; rfl
         · rw [if_neg h10, decL_step m (by omega)]
     | cons z zs =>
       have hE := hI2 (by simp)
       have hzl : (z :: zs).length ≤ 20 := by
        have := congrArg List.length hE
        rw [List.length_append, List.length_reverse] at this
        omega
       simp only [List.length_cons] at hzl
       have dl : ((zs.length : Int) + 1 == 0) = false := by rw [beq_eq_false_iff_ne]; omega
       by_cases hmz : m = 0
       · have dm : decide (0 < m) = false := decide_eq_false (by omega)
         rw [if_pos hmz, List.nil_append] at hE
         repeat' (first | (with_reducible first | refine XG_split (fun hq => ?_) (fun hq => ?_) | refine MX1.of 4000 (by simp) ?_ | refine MX2.of 4000 (by simp) ?_ | refine And.intro ?_ ?_) | ((with_reducible first | refine Or.inl (And.intro (And.intro mixedP ?_) ?_) | refine Or.inl (And.intro mixedP ?_)); kernel_rfl) | simp only [go_sem,Nat.reduceEqDiff,Nat.reduceAdd,Nat.reduceMul,Nat.reduceLeDiff,Int.reduceBEq,List.map_cons,List.map_nil,digSt,w1,w2,w3,dm,dl])
         all_goals first | omega | (unfold maxLen; omega) | (right; omega) | (left; simp; done) | (simp only [wk3,wkL2,wk2,wkL,wk1_d,wk1_own,wk1_nil,and_self]; done) | (intro i hi; simp only [upd]; (repeat' split); all_goals first | rfl | omega) | skip
         refine AW.wk (Wk.of (t1 := (digSt m sg (z :: zs)).t) (h1 := (digSt m sg (z :: zs)).h) (n1 := 1) (by simp only [go_sem, digSt, List.map_cons]) (fun i hi => rfl) (hHOk _) (Nat.le_refl _) (by omega) (by simp only [go_sem, digSt, List.map_cons]; omega)) ?_
         refine AW.seq ?_
         refine AW.rev (j := 5) (k := 0) (zs := z :: zs) rfl rfl rfl rfl rfl rfl (by decide) (by decide) rfl (by simp) rfl (Nat.le_refl _) (by simp only [digSt, fr_len, List.length_replicate]; decide) (by simp only [List.length_cons]; omega) (dig_slots m sg (z :: zs)) ?_
         show AW Try.prog Ft.no.tb [] _ _ _
         refine AW.of_X (E := EqT.no _) 4000 (by simp [digSt, fr_len]) ?_
         rw [hE]
         repeat' (first | (with_reducible first | refine XG_split (fun hq => ?_) (fun hq => ?_) | refine MX1.of 4000 (by simp) ?_ | refine MX2.of 4000 (by simp) ?_ | refine And.intro ?_ ?_) | ((with_reducible first | refine Or.inl (And.intro (And.intro mixedP ?_) ?_) | refine Or.inl (And.intro mixedP ?_)); kernel_rfl) | simp only [go_sem,Nat.reduceEqDiff,Nat.reduceAdd,Nat.reduceMul,Nat.reduceLeDiff,Int.reduceBEq,digSt,byteRows_u8])
         all_goals try simp only [strOf_size]
         all_goals first | omega | (unfold maxLen; omega) | (right; omega) | (left; simp; done) | (simp only [wk3,wkL2,wk2,wkL,wk1_d,wk1_own,wk1_nil,and_self]; done) | (intro i hi; simp only [upd]; (repeat' split); all_goals first | rfl | omega) | skip
         all_goals exact wk_v (congrArg Value.string htxt.symm)
       · have dm : decide (0 < m) = true := decide_eq_true (by omega)
         rw [if_neg hmz] at hE
         repeat' (first | (with_reducible first | refine XG_split (fun hq => ?_) (fun hq => ?_) | refine MX1.of 4000 (by simp) ?_ | refine MX2.of 4000 (by simp) ?_ | refine And.intro ?_ ?_) | ((with_reducible first | refine Or.inl (And.intro (And.intro mixedP ?_) ?_) | refine Or.inl (And.intro mixedP ?_)); kernel_rfl) | simp only [go_sem,Nat.reduceEqDiff,Nat.reduceAdd,Nat.reduceMul,Nat.reduceLeDiff,Int.reduceBEq,List.map_cons,List.map_nil,digSt,w1,w2,w3,dm,dl])
         all_goals first | omega | (unfold maxLen; omega) | (right; omega) | (left; simp; done) | (simp only [wk3,wkL2,wk2,wkL,wk1_d,wk1_own,wk1_nil,and_self]; done) | (intro i hi; simp only [upd]; (repeat' split); all_goals first | rfl | omega) | skip
         refine ⟨(m / 10, z :: zs ++ [48 + ((m % 10 : Nat) : Int)]), ⟨by show m / 10 ≤ m0; omega, fun h => (by simp at h), fun _ => ?_⟩, Wk.of (by simp only [go_sem, digSt, List.map_cons, List.map_nil, List.map_append, u8Row]) (by intro i hi; simp only [upd, digSt, List.length_cons, List.length_nil, List.length_append]; (repeat' split); all_goals first | rfl | omega) (hHOk _) (by omega) (by omega) (by simp only [go_sem, digSt]; omega), by simp; omega⟩
         show (if m / 10 = 0 then [] else decL (m / 10)) ++ (z :: zs ++ [48 + ((m % 10 : Nat) : Int)]).reverse = decL m0
         rw [← hE, List.reverse_append]
         by_cases h10 : m / 10 = 0
         · rw [if_pos h10, decL_last m h10]; rfl
         · rw [if_neg h10, decL_step m (by omega)]
           simp
abbrev digitsS : Fs := .pureIf (g1p aI64 i64) (g1 aI64 fun n => vS (numText n))
theorem digits_ok : FsOk Try.prog 105 digitsS := by
 intro c h n w vals args K hw hl hr hS
 obtain ⟨hpre, hS⟩ := hS
 obtain ⟨q, hq, hK⟩ := onO_iff hS
 simp only [Fs.pureIf] at hq hpre
 cases hg : g1 aI64 (fun n => vS (numText n)) args with
 | none => simp [hg] at hq
 | some r =>
   simp only [hg, Option.map_some, Option.some.injEq] at hq
   subst hq
   obtain ⟨x, v, rfl, hx, rfl⟩ := g1_eq hg
   obtain ⟨u, hu⟩ : ∃ u, vals = [u] := by
    match vals, hl with
    | [u], _ => exact ⟨u, rfl⟩
   subst hu
   have hxv : x = vI v := by
    unfold aI64 at hx
    split at hx
    · cases hx; rfl
    · cases hx
   subst hxv
   have hru := hr 0 u _ rfl rfl
   obtain rfl := cval_rep hru rfl
   let cF : Cx := ⟨fun b => if b < w.heap.size then none else some 0, fun _ => 0, fun _ => (none, 0)⟩
   have hwF : Wd cF (fun _ => .no) 0 w := ⟨fun i cs hi => (by cases hi), fun i m z cap hi _ => (by cases hi), fun i m z a cap hi _ => (by cases hi), fun i j b _ hi _ => (by cases hi), fun b hb => if_neg (Nat.not_lt.2 hb), fun _ _ => rfl⟩
   have hrF : ∀ (j : Nat) u x, [(.int .i64 v : Value)][j]? = some u → [vI v][j]? = some x → ARep cF (fun _ => .no) w u x := fun j u x hu hx => by
    match j with
    | 0 =>
      simp only [List.getElem?_cons_zero, Option.some.injEq] at hu hx
      subst hu; subst hx
      exact .d _ _ (.v _ rfl)
    | j + 1 => simp at hu
   obtain ⟨hent, hcalls⟩ := digits0_ok cF (fun _ => .no) 0 w [.int .i64 v] [vI v] (fun r _ _ => r = vS (numText v)) hwF rfl hrF ⟨⟨hpre, rfl, rfl⟩, by
    show onO ((g1 aI64 (fun n => vS (numText n)) [vI v]).map fun r => (r, (fun _ => AO.no), 0)) _
    rw [hg]
    exact rfl⟩
   refine ⟨hent, hcalls.mono fun e w' he => ?_⟩
   obtain ⟨y, r, c', h', n', rfl, r1, r2, r3, r4, r5, rfl⟩ := he
   obtain rfl := cval_rep r4 rfl
   have hb : Below w.heap.size w w' := ⟨r2.os, r2.tape, r2.output, r2.size, fun b hb => (r2.all b (if_pos hb)).2⟩
   obtain ⟨g1, g2⟩ := wd_same hw hb
   exact ⟨_, _, c, h, n, rfl, g1, g2, ⟨fun b hbl _ => hb.block b hbl, fun i b q _ => q⟩, .d _ _ (.v _ rfl), Nat.le_refl n, hK⟩
end Go.Proofs.Ytdhocmakbapfpaa.M
end
section
namespace Go.Proofs.Ytdhocmakbapfpaa.M
open Go.R
theorem of_rep {P : Program} {f : FuncId} {fn : Func} {code : Code} {g : List AV → Option AV} {pre : List AV → Prop} (hf : P.funcs[f]? = some fn) (hbody : fn.body = some code) (hn : (fn.name == "runtime.NumGoroutine") = false)
 (H : ∀ (args : List AV) (r : AV) (c : Cx) (h : AH) (n : Nat) (w : World) (vals : List Value), pre args → g args = some r → Wd c h n w → vals.length = args.length → (∀ (j : Nat) v x, vals[j]? = some v → args[j]? = some x → ARep c h w v x) → ∃ x, (∀ c h w, ARep c h w x r) ∧ Calls P f vals.toArray w fun e w' => e = .returned x ∧ Go.RowKit.Below w.heap.size w w') : FsOk P f (.pureIf pre g) := by
 intro c h n w vals args K hw hl hr hS
 obtain ⟨hpre, hS⟩ := hS
 obtain ⟨q, hq, hK⟩ := onO_iff hS
 refine ⟨Entered.of hf hbody hn, ?_⟩
 simp only [Fs.pureIf] at hq hpre
 cases hg : g args with
 | none => simp [hg] at hq
 | some r =>
   simp only [hg, Option.map_some, Option.some.injEq] at hq
   subst hq
   obtain ⟨x, h2, h3⟩ := H args r c h n w vals hpre hg hw hl hr
   refine h3.mono fun e w' ⟨he, hb⟩ => ?_
   obtain ⟨g1, g2⟩ := wd_same hw hb
   exact ⟨x, r, c, h, n, he, g1, g2, ⟨fun b hbl _ => hb.block b hbl, fun i b q _ => q⟩, h2 c h w', Nat.le_refl n, hK⟩
def aStrs (x : AV) : Option (List ByteArray) := match rowsOf 1 x with
 | some xs => dRows cStr xs
 | none => none
attribute [go_sem] aStrs
theorem ext_data {a b : ByteArray} (h : a.data.toList = b.data.toList) : a = b := by
 obtain ⟨⟨x⟩⟩ := a
 obtain ⟨⟨y⟩⟩ := b
 simp only at h
 rw [h]
def joinL (xs : List ByteArray) (sep : ByteArray) : List UInt8 := Go.Lib.join (xs.map (·.data.toList)) sep.data.toList
def joinB (xs : List ByteArray) (sep : ByteArray) : ByteArray := ⟨(joinL xs sep).toArray⟩
abbrev joinS : Fs := .pureIf (g2p aStrs aStr fun xs sep => xs.length ≤ 1099511627776 ∧ (joinL xs sep).length ≤ 140737488355328) (g2 aStrs aStr fun xs sep => vS (joinB xs sep))
theorem strJoin_ok : FsOk Try.prog 72 joinS := by
 refine of_rep Try.func72 rfl (by kernel_rfl) ?_
 intro args r c h n w vals hp hg hw hl hr
 obtain ⟨x, y, xs, sep, rfl, hx, hy, rfl⟩ := g2_eq hg
 obtain ⟨hmax, hp⟩ := hp xs hx sep hy
 obtain rfl := aStr_eq hy
 refine ⟨.string (joinB xs sep), fun _ _ _ => .d _ _ (.v _ rfl), ?_⟩
 match vals, hl with
 | [v, u], _ =>
   have hu := hr 1 u _ rfl rfl
   obtain rfl := cval_rep hu rfl
   have hv := hr 0 v _ rfl rfl
   unfold aStrs at hx
   cases hrow : rowsOf 1 x with
   | none => simp [hrow] at hx
   | some rows =>
     simp only [hrow] at hx
     obtain rfl := dRows_eq (fun c x => cStr_eq) hx
     obtain ⟨A, cap, rfl, hd⟩ := rowsOf_rep hv hrow
     rw [List.length_map] at hd ⊢
     cases xs with
     | nil => exact (Go.Proofs.Try.strings_Join_none A cap sep w).mono fun e w' ⟨he, hw'⟩ => ⟨he, by subst hw'; exact Go.RowKit.Below.refl _ _⟩
     | cons s0 rest =>
       generalize hxs : s0 :: rest = xs at hd hp hmax
       have hpos : 0 < xs.length := by rw [← hxs]; simp
       have hlen : ((xs.map strRow).length) = xs.length := List.length_map _
       rw [← hlen] at hd
       generalize hz : (.sl 1 (xs.map strRow) : DV) = z at hd
       generalize hvv : (.slice A (xs.map strRow).length cap : Value) = vv at hd
       cases hd with
       | v x h1 => cases hz
       | sl A' cap' z' rows f hc hz' hA hN hcell hrep =>
         cases hz
         have hvv := hvv
         simp only [Value.slice.injEq] at hvv
         obtain ⟨rfl, _, rfl⟩ := hvv
         cases A with
         | none =>
           have := (hN rfl).1
           rw [← hxs] at this
           simp at this
         | some a =>
           have hsp := (hA a rfl).resolve_right (by have := hc; rw [hlen] at this; omega)
           obtain ⟨bk, off, sp⟩ := a
           simp only at hsp
           subst hsp
           have hrow' : ∀ (j : Nat) s, xs[j]? = some s → (xs.map strRow)[j]? = some (strRow s) := fun j s hj => by rw [List.getElem?_map, hj]; rfl
           have hcells : ∀ (j : Nat) s, xs[j]? = some s → w.cell? ⟨bk, off + j, none⟩ = some (.string s) ∧ c.lo bk (off + j) := fun j s hj => by
            have h1 := hcell _ rfl j 0 (strRow s) (.v (.string s)) (hrow' j s hj) rfl
            have h2 := hrep j 0 (strRow s) (.v (.string s)) (hrow' j s hj) rfl
            have e : f j 0 = .string s := by
             generalize f j 0 = q at h2
             cases h2
             rfl
            rw [e] at h1
            simpa [Nat.mul_one] using h1
           have hlo : bk < w.heap.size := lo_lt hw (hcells 0 _ (List.getElem?_eq_getElem hpos)).2
           exact (Go.Proofs.Try.strings_Join bk off cap xs sep w (fun j s hj => (hcells j s hj).1) hlo (by omega) (by rw [hlen] at hc; exact hc) hp).mono fun e w' ⟨he, hb⟩ => ⟨he, hb⟩
abbrev ptextS : Fs := .pureIf (g1p aVal fun v => i64 v.num) (g1 aVal fun v => .tup [vS (textB v), vB (goodV v)])
abbrev showTermS : Fs := .pureIf (g1p aTerm fun t => i64 t.val.num) (g1 aTerm fun t => vS (termText t))
abbrev showS : Fs := .pureIf (g1p aLit fun l => literalB l = true ∧ litI l) (g1 aLit fun l => vS (litText l))
abbrev pprintS : Fs := .pureIf (g1p aClause fun c => clauseI c ∧ szC c) (g1 aClause fun c => .tup [vS (printB c).1, vI (printB c).2])
abbrev pprintLitS : Fs := .pureIf (g1p aLit fun l => litI l ∧ szL l) (g1 aLit fun l => .tup [vS (printLitB l).1, vI (printLitB l).2])
theorem joinB_cons (x : ByteArray) (r : List ByteArray) (sep : ByteArray) : (joinB (x :: r) sep).data.toList = x.data.toList ++ Go.Lib.joinTail sep.data.toList (r.map (·.data.toList)) := by
 unfold joinB joinL
 rw [List.map_cons, Go.Lib.join_cons]
theorem joinB_two (a b sep : ByteArray) : joinB [a, b] sep = a ++ sep ++ b := by
 have h := joinB_cons a [b] sep
 refine ext_data ?_
 rw [h]
 simp [Go.Lib.joinTail, ByteArray.data_append]
theorem args_join : ∀ (r : List Term) (k : Nat) (out : ByteArray), (argsGo (k + 1) out r).data.toList = out.data.toList ++ Go.Lib.joinTail [44, 32] ((r.map termText).map (·.data.toList))
 | [], k, out => by simp [argsGo, Go.Lib.joinTail]
 | t :: r, k, out => by
   rw [argsGo, args_join r (k + 1)]
   simp [Go.Lib.joinTail, ByteArray.data_append]
theorem args_join0 (t : Term) (r : List Term) (out : ByteArray) : argsGo 0 out (t :: r) = out ++ (⟨#[40]⟩ : ByteArray) ++ joinB ((t :: r).map termText) ⟨#[44, 32]⟩ := by
 refine ext_data ?_
 rw [argsGo, args_join r 0]
 simp only [ByteArray.data_append, Array.toList_append, List.map_cons, joinB_cons, List.append_assoc]
theorem size_data (x : ByteArray) : x.data.toList.length = x.size := Array.length_toList
theorem joinL_le (ts : List ByteArray) (sep : ByteArray) (m : Nat) (h : ∀ t ∈ ts, t.size ≤ m) : (joinL ts sep).length ≤ ts.length * (m + sep.size) := by
 have key : ∀ r : List ByteArray, (∀ t ∈ r, t.size ≤ m) → (Go.Lib.joinTail sep.data.toList (r.map (·.data.toList))).length ≤ r.length * (m + sep.size) := by
  intro r
  induction r with
  | nil => intro _; simp [Go.Lib.joinTail]
  | cons x r ih =>
    intro hr
    have := ih fun t ht => hr t (List.mem_cons_of_mem _ ht)
    have hx := hr x (List.mem_cons_self ..)
    simp only [Go.Lib.joinTail, List.map_cons, List.flatten_cons, List.length_append, List.length_cons] at this ⊢
    have e1 := size_data x
    have e2 := size_data sep
    rw [e1, e2, Nat.succ_mul]
    omega
 cases ts with
 | nil => simp [joinL, Go.Lib.join_nil]
 | cons x r =>
   unfold joinL
   rw [List.map_cons, Go.Lib.join_cons, List.length_append]
   have := key r fun t ht => h t (List.mem_cons_of_mem _ ht)
   have hx := h x (List.mem_cons_self ..)
   have e1 := size_data x
   rw [e1, List.length_cons, Nat.succ_mul]
   omega
theorem joinB_size (ts : List ByteArray) (sep : ByteArray) : (joinB ts sep).size = (joinL ts sep).length := by rw [← size_data]; rfl
set_option maxRecDepth 10000 in
set_option maxHeartbeats 4000000 in
theorem ptext_ok : FsOk Try.prog 88 ptextS := by
 refine of_Y1 (E := EqT.no _) (F := (Ft.no.put 96 goodS).put 105 digitsS) Val.av (fun _ _ => aVal_le) Try.func88 rfl (by kernel_rfl) [.tmp 2, .tmp 3] rfl Try.ntmps88 (by decide) (((FtOk.no _).put good_ok).put digits_ok) ?_
 intro v h n hp hok
 cases hg : goodV v with
 | false =>
   have hT : textB v = ⟨#[]⟩ := by unfold textB; rw [hg]; rfl
   repeat' (first | (with_reducible first | refine XG_split (fun hq => ?_) (fun hq => ?_) | refine MX1.of 4000 (by simp) ?_ | refine MX2.of 4000 (by simp) ?_ | refine And.intro ?_ ?_) | ((with_reducible first | refine Or.inl (And.intro (And.intro mixedP ?_) ?_) | refine Or.inl (And.intro mixedP ?_)); kernel_rfl) | simp only [go_sem,Nat.reduceEqDiff,Nat.reduceAdd,Nat.reduceMul,Nat.reduceLeDiff,Int.reduceBEq,Val.av,empty_str,hg,hT])
   all_goals first | exact hp | skip
   all_goals first | omega | (unfold maxLen; omega) | (right; omega) | (left; simp; done) | (simp only [wk3,wkL2,wk2,wkL,wk1_d,wk1_own,wk1_nil,and_self]; done) | (intro i hi; simp only [upd]; (repeat' split); all_goals first | rfl | omega) | skip
 | true =>
   cases hs : v.sym.size == 0 with
   | false =>
     have hT : textB v = v.sym := by unfold textB; rw [hg, if_pos rfl, if_pos (by have := beq_eq_false_iff_ne.1 hs; omega)]
     repeat' (first | (with_reducible first | refine XG_split (fun hq => ?_) (fun hq => ?_) | refine MX1.of 4000 (by simp) ?_ | refine MX2.of 4000 (by simp) ?_ | refine And.intro ?_ ?_) | ((with_reducible first | refine Or.inl (And.intro (And.intro mixedP ?_) ?_) | refine Or.inl (And.intro mixedP ?_)); kernel_rfl) | simp only [go_sem,Nat.reduceEqDiff,Nat.reduceAdd,Nat.reduceMul,Nat.reduceLeDiff,Int.reduceBEq,Val.av,empty_str,hg,hs,hT])
     all_goals first | exact hp | skip
     all_goals first | omega | (unfold maxLen; omega) | (right; omega) | (left; simp; done) | (simp only [wk3,wkL2,wk2,wkL,wk1_d,wk1_own,wk1_nil,and_self]; done) | (intro i hi; simp only [upd]; (repeat' split); all_goals first | rfl | omega) | skip
   | true =>
     have hT : textB v = numText v.num := by unfold textB; rw [hg, if_pos rfl, if_neg (by have := beq_iff_eq.1 hs; omega)]
     repeat' (first | (with_reducible first | refine XG_split (fun hq => ?_) (fun hq => ?_) | refine MX1.of 4000 (by simp) ?_ | refine MX2.of 4000 (by simp) ?_ | refine And.intro ?_ ?_) | ((with_reducible first | refine Or.inl (And.intro (And.intro mixedP ?_) ?_) | refine Or.inl (And.intro mixedP ?_)); kernel_rfl) | simp only [go_sem,Nat.reduceEqDiff,Nat.reduceAdd,Nat.reduceMul,Nat.reduceLeDiff,Int.reduceBEq,Val.av,empty_str,hg,hs,hT])
     all_goals first | exact hp | skip
     all_goals first | omega | (unfold maxLen; omega) | (right; omega) | (left; simp; done) | (simp only [wk3,wkL2,wk2,wkL,wk1_d,wk1_own,wk1_nil,and_self]; done) | (intro i hi; simp only [upd]; (repeat' split); all_goals first | rfl | omega) | skip
set_option maxRecDepth 10000 in
set_option maxHeartbeats 4000000 in
theorem showTerm_ok : FsOk Try.prog 71 showTermS := by
 refine of_Y1 (E := EqT.no _) (F := Ft.no.put 88 ptextS) Term.av (fun _ _ => aTerm_le) Try.func71 rfl (by kernel_rfl) [.tmp 2] rfl Try.ntmps71 (by decide) ((FtOk.no _).put ptext_ok) ?_
 intro t h n hp hok
 cases hs : t.var.size == 0 with
 | false =>
   have hT : termText t = t.var := by unfold termText; rw [if_pos (by have := beq_eq_false_iff_ne.1 hs; omega)]
   repeat' (first | (with_reducible first | refine XG_split (fun hq => ?_) (fun hq => ?_) | refine MX1.of 4000 (by simp) ?_ | refine MX2.of 4000 (by simp) ?_ | refine And.intro ?_ ?_) | ((with_reducible first | refine Or.inl (And.intro (And.intro mixedP ?_) ?_) | refine Or.inl (And.intro mixedP ?_)); kernel_rfl) | simp only [go_sem,Nat.reduceEqDiff,Nat.reduceAdd,Nat.reduceMul,Nat.reduceLeDiff,Int.reduceBEq,Term.av,Val.av,empty_str,hs,hT])
   all_goals first | exact hp | skip
   all_goals first | omega | (unfold maxLen; omega) | (right; omega) | (left; simp; done) | (simp only [wk3,wkL2,wk2,wkL,wk1_d,wk1_own,wk1_nil,and_self]; done) | (intro i hi; simp only [upd]; (repeat' split); all_goals first | rfl | omega) | skip
 | true =>
   have hT : termText t = textB t.val := by unfold termText; rw [if_neg (by have := beq_iff_eq.1 hs; omega)]
   repeat' (first | (with_reducible first | refine XG_split (fun hq => ?_) (fun hq => ?_) | refine MX1.of 4000 (by simp) ?_ | refine MX2.of 4000 (by simp) ?_ | refine And.intro ?_ ?_) | ((with_reducible first | refine Or.inl (And.intro (And.intro mixedP ?_) ?_) | refine Or.inl (And.intro mixedP ?_)); kernel_rfl) | simp only [go_sem,Nat.reduceEqDiff,Nat.reduceAdd,Nat.reduceMul,Nat.reduceLeDiff,Int.reduceBEq,Term.av,Val.av,empty_str,hs,hT])
   all_goals first | exact hp | skip
   all_goals first | omega | (unfold maxLen; omega) | (right; omega) | (left; simp; done) | (simp only [wk3,wkL2,wk2,wkL,wk1_d,wk1_own,wk1_nil,and_self]; done) | (intro i hi; simp only [upd]; (repeat' split); all_goals first | rfl | omega) | skip
def showSt (l : Lit) (h : AH) (n k : Nat) : St := match k with
 | 0 => ⟨fr [(1, .p n 0), (3, .d (.v (.slice none 0 0))), (8, .d (.sl 3 (l.args.map Term.cells))), (9, vI l.args.length), (10, vI 0)] (List.replicate 57 .any), upd h n (.box l.bx), n, n + 1⟩
 | k + 1 => ⟨fr [(1, .p n 0), (3, .own (n + 1 + 1) 1 (((l.args.take (k + 1)).map termText).map strRow)), (8, .d (.sl 3 (l.args.map Term.cells))), (9, vI l.args.length), (10, vI (k + 1 : Nat))] (List.replicate 57 .any),
     upd (upd (upd h n (.box l.bx)) (n + 1) (.box ((l.args.headD Term.z).cells.map AV.d))) (n + 1 + 1) (.tok (k + 1) 1), n, n + 1 + 1 + 1⟩
set_option maxRecDepth 10000 in
set_option maxHeartbeats 4000000 in
theorem show_ok : FsOk Try.prog 48 showS := by
 refine of_Y1 (E := eqT) (F := (Ft.no.put 71 showTermS).put 72 joinS) Lit.av (fun _ _ => aLit_le) Try.func48 rfl (by kernel_rfl) [.tmp 2] rfl Try.ntmps48 (by decide) (((FtOk.no _).put showTerm_ok).put strJoin_ok) ?_
 intro l h n hp hok
 obtain ⟨hg, hw, hi⟩ := hp
 have hlen : l.args.length ≤ 4 := by
  unfold literalB at hg
  split at hg
  · unfold saidB at hg
    simp only [Bool.and_eq_true, decide_eq_true_eq] at hg
    exact hg.1.2
  · simp only [Bool.and_eq_true, beq_iff_eq] at hg
    omega
 have hts : termsB l.args = true := by
  unfold literalB at hg
  split at hg
  · unfold saidB at hg
    simp only [Bool.and_eq_true] at hg
    exact hg.2
  · simp only [Bool.and_eq_true] at hg
    exact hg.2
 have hsz : ∀ t ∈ l.args, (termText t).size ≤ 20 := fun t ht => termText_size (hi t ht) (by unfold termsB at hts; rw [List.all_eq_true] at hts; exact hts t ht)
 have hszm : ∀ s ∈ l.args.map termText, s.size ≤ 20 := fun s hs => by
  obtain ⟨t, ht, rfl⟩ := List.mem_map.1 hs
  exact hsz t ht
 have hjl : ∀ sep : ByteArray, sep.size ≤ 4 → (joinL (l.args.map termText) sep).length ≤ 96 := fun sep hsep => by
  have := joinL_le (l.args.map termText) sep 20 hszm
  rw [List.length_map] at this
  have h2 : l.args.length * (20 + sep.size) ≤ 4 * 24 := Nat.mul_le_mul hlen (by omega)
  omega
 have hok' : HOk (n + 1) (upd h n (.box l.bx)) := (hok.mono (Nat.le_succ n)).upd_box (Nat.lt_succ_self n) (by simp only [go_sem, Lit.bx])
 repeat' (first | (with_reducible first | refine XG_split (fun hq => ?_) (fun hq => ?_) | refine MX1.of 4000 (by simp) ?_ | refine MX2.of 4000 (by simp) ?_ | refine And.intro ?_ ?_) | ((with_reducible first | refine Or.inl (And.intro (And.intro mixedP ?_) ?_) | refine Or.inl (And.intro mixedP ?_)); kernel_rfl) | simp only [go_sem,Nat.reduceEqDiff,Nat.reduceAdd,Nat.reduceMul,Nat.reduceLeDiff,Int.reduceBEq,Lit.av,Lit.bx,showSt,Term.av])
 all_goals first | omega | (unfold maxLen; omega) | (right; omega) | (left; simp; done) | (simp only [wk3,wkL2,wk2,wkL,wk1_d,wk1_own,wk1_nil,and_self]; done) | (intro i hi; simp only [upd]; (repeat' split); all_goals first | rfl | omega) | skip
 refine AW.loopJ (E := eqT) (S := showSt l h n) (I := fun k => k ≤ l.args.length) (μ := fun k => l.args.length - k) 0 (Nat.zero_le _) ?_ 4000 (fun k => by cases k <;> simp only [showSt, fr_len, List.length_replicate] <;> decide) ?_
 · exact Wk.same (by simp only [go_sem, showSt, Lit.bx]) hok' (Nat.le_succ _) (by simp only [go_sem, showSt]; omega)
 · intro k hk
   rcases Nat.lt_or_ge k l.args.length with hkl | hkl
   · have hti := hi _ (List.getElem_mem hkl)
     cases k with
     | zero =>
       have hhd : l.args.headD Term.z = l.args[0] := by
        rw [List.headD_eq_head?_getD, List.head?_eq_getElem?, List.getElem?_eq_getElem hkl]
        rfl
       have hrow : ((l.args.take 1).map termText).map strRow = [strRow (termText l.args[0])] := by
        rw [List.take_succ_eq_append_getElem hkl]
        simp
       repeat' (first | (with_reducible first | refine XG_split (fun hq => ?_) (fun hq => ?_) | refine MX1.of 4000 (by simp) ?_ | refine MX2.of 4000 (by simp) ?_ | refine And.intro ?_ ?_) | ((with_reducible first | refine Or.inl (And.intro (And.intro mixedP ?_) ?_) | refine Or.inl (And.intro mixedP ?_)); kernel_rfl) | simp only [go_sem,Nat.reduceEqDiff,Nat.reduceAdd,Nat.reduceMul,Nat.reduceLeDiff,Int.reduceBEq,Lit.av,Lit.bx,showSt,Term.av,decide_eq_true hkl,List.getElem?_eq_getElem hkl,toNat1])
       all_goals first | exact hti | skip
       all_goals first | omega | (unfold maxLen; omega) | (right; omega) | (left; simp; done) | (simp only [wk3,wkL2,wk2,wkL,wk1_d,wk1_own,wk1_nil,and_self]; done) | (intro i hi; simp only [upd]; (repeat' split); all_goals first | rfl | omega) | skip
       refine ⟨1, hkl, Wk.of (by simp only [go_sem, hrow, strRow]) ?_ ?_ (by omega) (by omega) (by simp only [go_sem]; omega), by omega⟩
       · intro i hi
         simp only [upd, hhd, Term.ds]
         (repeat' split)
         all_goals first | rfl | omega
       · exact ((hok'.mono (by omega)).upd_box (by omega) (by simp only [go_sem])).upd_tok (by omega)
     | succ k =>
       have hdec : decide (((k + 1 : Nat) : Int) < (l.args.length : Int)) = true := decide_eq_true (by omega)
       have hlt : (l.args.take (k + 1)).length = k + 1 := by rw [List.length_take]; omega
       have hrow : ((l.args.take (k + 1 + 1)).map termText).map strRow = ((l.args.take (k + 1)).map termText).map strRow ++ [strRow (termText l.args[k + 1])] := by
        rw [List.take_succ_eq_append_getElem hkl, List.map_append, List.map_append]
        rfl
       repeat' (first | (with_reducible first | refine XG_split (fun hq => ?_) (fun hq => ?_) | refine MX1.of 4000 (by simp) ?_ | refine MX2.of 4000 (by simp) ?_ | refine And.intro ?_ ?_) | ((with_reducible first | refine Or.inl (And.intro (And.intro mixedP ?_) ?_) | refine Or.inl (And.intro mixedP ?_)); kernel_rfl) | simp only [go_sem,Nat.reduceEqDiff,Nat.reduceAdd,Nat.reduceMul,Nat.reduceLeDiff,Int.reduceBEq,Lit.av,Lit.bx,showSt,Term.av,dnat1 hkl,toNat1,List.getElem?_eq_getElem hkl,hlt])
       all_goals first | exact hti | skip
       all_goals first | omega | (unfold maxLen; omega) | (right; omega) | (left; simp; done) | (simp only [wk3,wkL2,wk2,wkL,wk1_d,wk1_own,wk1_nil,and_self]; done) | (intro i hi; simp only [upd]; (repeat' split); all_goals first | rfl | omega) | skip
       refine ⟨k + 1 + 1, hkl, Wk.of (by simp only [go_sem, hrow, strRow]) ?_ ?_ (by omega) (by omega) (by simp only [go_sem]; omega), by omega⟩
       · intro i hi
         simp only [upd]
         (repeat' split)
         all_goals first | rfl | omega
       · exact ((hok'.mono (by omega)).upd_box (by omega) (by simp only [go_sem])).upd_tok (by omega)
   · obtain rfl : k = l.args.length := by omega
     have htk : l.args.take l.args.length = l.args := List.take_of_length_le (Nat.le_refl _)
     have s1 : #[(32 : UInt8), 60, 32].size = 3 := rfl
     have s2 : #[(32 : UInt8), 33, 61, 32].size = 4 := rfl
     have s3 : #[(44 : UInt8), 32].size = 2 := rfl
     have s4 : #[(40 : UInt8)].size = 1 := rfl
     have s5 : #[(41 : UInt8)].size = 1 := rfl
     have s6 : #[(32 : UInt8), 115, 97, 121, 115, 32].size = 6 := rfl
     have s7 : #[(110 : UInt8), 111, 116, 32].size = 4 := rfl
     have j1 := hjl ⟨#[32, 60, 32]⟩ (by decide)
     have j2 := hjl ⟨#[32, 33, 61, 32]⟩ (by decide)
     have j3 := hjl ⟨#[44, 32]⟩ (by decide)
     have j3' := joinB_size (l.args.map termText) ⟨#[44, 32]⟩
     have hown : (l.who.var.size == 0 && (l.who.val.sym.size == 0 && l.who.val.num == 0)) = ownT l.who := by unfold ownT; rw [Bool.and_assoc]
     by_cases k3 : l.kind = 3
     · have c3 : (l.kind == 3) = true := by simp [k3]
       obtain ⟨a, b, hab⟩ : ∃ a b, l.args = [a, b] := by
        have : l.args.length = 2 := by
         simp [literalB, k3] at hg
         exact hg.1.2
        match hq : l.args, this with
        | [a, b], _ => exact ⟨a, b, rfl⟩
       have hT : litText l = joinB (l.args.map termText) ⟨#[32, 60, 32]⟩ := by
        unfold litText
        rw [c3, if_pos rfl, hab]
        simp only [List.map_cons, List.map_nil, joinB_two]
        rfl
       have hl2 : l.args.length = 1 + 1 := by rw [hab]; rfl
       rw [hl2] at htk ⊢
       repeat' (first | (with_reducible first | refine XG_split (fun hq => ?_) (fun hq => ?_) | refine MX1.of 4000 (by simp) ?_ | refine MX2.of 4000 (by simp) ?_ | refine And.intro ?_ ?_) | ((with_reducible first | refine Or.inl (And.intro (And.intro mixedP ?_) ?_) | refine Or.inl (And.intro mixedP ?_)); kernel_rfl) | simp only [go_sem,Nat.reduceEqDiff,Nat.reduceAdd,Nat.reduceMul,Nat.reduceLeDiff,Int.reduceBEq,Lit.av,Lit.bx,showSt,Term.av,Int.lt_irrefl,decide_false,dStrs,List.length_map,htk,hl2,c3,hT])
       all_goals first | exact ⟨by rw [List.length_map]; omega, by omega⟩ | skip
       all_goals first | omega | (unfold maxLen; omega) | (right; omega) | (left; simp; done) | (simp only [wk3,wkL2,wk2,wkL,wk1_d,wk1_own,wk1_nil,and_self]; done) | (intro i hi; simp only [upd]; (repeat' split); all_goals first | rfl | omega) | skip
     by_cases k4 : l.kind = 4
     · have c3 : (l.kind == 3) = false := by simp [k3]
       have c4 : (l.kind == 4) = true := by simp [k4]
       obtain ⟨a, b, hab⟩ : ∃ a b, l.args = [a, b] := by
        have : l.args.length = 2 := by
         simp [literalB, k4] at hg
         exact hg.1.2
        match hq : l.args, this with
        | [a, b], _ => exact ⟨a, b, rfl⟩
       have hT : litText l = joinB (l.args.map termText) ⟨#[32, 33, 61, 32]⟩ := by
        unfold litText
        rw [c3, c4, if_neg (by simp), if_pos rfl, hab]
        simp only [List.map_cons, List.map_nil, joinB_two]
        rfl
       have hl2 : l.args.length = 1 + 1 := by rw [hab]; rfl
       rw [hl2] at htk ⊢
       repeat' (first | (with_reducible first | refine XG_split (fun hq => ?_) (fun hq => ?_) | refine MX1.of 4000 (by simp) ?_ | refine MX2.of 4000 (by simp) ?_ | refine And.intro ?_ ?_) | ((with_reducible first | refine Or.inl (And.intro (And.intro mixedP ?_) ?_) | refine Or.inl (And.intro mixedP ?_)); kernel_rfl) | simp only [go_sem,Nat.reduceEqDiff,Nat.reduceAdd,Nat.reduceMul,Nat.reduceLeDiff,Int.reduceBEq,Lit.av,Lit.bx,showSt,Term.av,Int.lt_irrefl,decide_false,dStrs,List.length_map,htk,hl2,c3,c4,hT])
       all_goals first | exact ⟨by rw [List.length_map]; omega, by omega⟩ | skip
       all_goals first | omega | (unfold maxLen; omega) | (right; omega) | (left; simp; done) | (simp only [wk3,wkL2,wk2,wkL,wk1_d,wk1_own,wk1_nil,and_self]; done) | (intro i hi; simp only [upd]; (repeat' split); all_goals first | rfl | omega) | skip
     have c3 : (l.kind == 3) = false := by simp [k3]
     have c4 : (l.kind == 4) = false := by simp [k4]
     have hsd : saidB l = true := by
      unfold literalB at hg
      rw [c3, c4] at hg
      split at hg
      · exact hg
      · simp at hg
     have hpred : l.pred.size ≤ 16 := by
      unfold saidB at hsd
      simp only [Bool.and_eq_true] at hsd
      exact nameB_size hsd.1.1.2
     have hwho : ownT l.who = false → (termText l.who).size ≤ 20 := fun e => by
      unfold saidB at hsd
      simp only [Bool.and_eq_true, e, Bool.false_or] at hsd
      exact termText_size hw hsd.1.1.1.1
     have hT : litText l = (if l.kind == 2 then (⟨#[110, 111, 116, 32]⟩ : ByteArray) else ⟨#[]⟩) ++ ((if ownT l.who then (⟨#[]⟩ : ByteArray) else termText l.who ++ ⟨#[32, 115, 97, 121, 115, 32]⟩) ++ (l.pred ++ (if 0 < l.args.length then (⟨#[40]⟩ : ByteArray) ++ joinB (l.args.map termText) ⟨#[44, 32]⟩ ++ ⟨#[41]⟩ else ⟨#[]⟩))) := by
      unfold litText
      rw [c3, c4, if_neg (by simp), if_neg (by simp)]
      have hah : litAhead l = (if l.kind == 2 then (⟨#[110, 111, 116, 32]⟩ : ByteArray) else ⟨#[]⟩) ++ (if ownT l.who then (⟨#[]⟩ : ByteArray) else termText l.who ++ ⟨#[32, 115, 97, 121, 115, 32]⟩) ++ l.pred := by
       unfold litAhead
       cases ownT l.who <;> (refine ext_data ?_; simp [ByteArray.data_append])
      unfold litBehind
      cases hq : l.args with
      | nil =>
        rw [hah]
        refine ext_data ?_
        simp [argsGo, ByteArray.data_append]
      | cons t r =>
        rw [args_join0, hah]
        refine ext_data ?_
        simp [ByteArray.data_append]
     cases ho : ownT l.who with
     | true =>
       rw [ho] at hown hT
       simp only [if_true] at hT
       cases k2 : (l.kind == 2) with
       | true =>
         rw [k2] at hT
         rcases Nat.eq_zero_or_pos l.args.length with hz | hz
         · have hnil : l.args = [] := List.eq_nil_of_length_eq_zero hz
           rw [hz] at hT
           simp only [Nat.lt_irrefl, if_false, if_true, Bool.false_eq_true] at hT
           rw [hz]
           repeat' (first | (with_reducible first | refine XG_split (fun hq => ?_) (fun hq => ?_) | refine MX1.of 4000 (by simp) ?_ | refine MX2.of 4000 (by simp) ?_ | refine And.intro ?_ ?_) | ((with_reducible first | refine Or.inl (And.intro (And.intro mixedP ?_) ?_) | refine Or.inl (And.intro mixedP ?_)); kernel_rfl) | simp only [go_sem,Nat.reduceEqDiff,Nat.reduceAdd,Nat.reduceMul,Nat.reduceLeDiff,Int.reduceBEq,Lit.av,Lit.bx,showSt,Term.av,Int.lt_irrefl,decide_false,hz,hnil,empty_str,cvals,cval,c3,c4,k2,hown,List.map_nil])
           all_goals first | exact hw | skip
           all_goals try simp only [ByteArray.size_append, s1, s2, s3, s4, s5, s6, s7, j3', Int.natCast_add]
           all_goals first | omega | (unfold maxLen; omega) | (right; omega) | (left; simp; done) | (simp only [wk3,wkL2,wk2,wkL,wk1_d,wk1_own,wk1_nil,and_self]; done) | (intro i hi; simp only [upd]; (repeat' split); all_goals first | rfl | omega) | skip
           all_goals first | (refine wk_v (congrArg Value.string ?_); rw [hT]; done) | (refine wk_v (congrArg Value.string ?_); rw [hT]; refine ext_data ?_; simp [ByteArray.data_append]; done)
         · obtain ⟨m, hm⟩ : ∃ m, l.args.length = m + 1 := ⟨l.args.length - 1, by omega⟩
           rw [if_pos hz] at hT
           simp only [if_true, if_false, Bool.false_eq_true] at hT
           rw [hm] at htk ⊢
           have hd0 : decide ((0 : Int) < (m : Int) + 1) = true := decide_eq_true (by omega)
           repeat' (first | (with_reducible first | refine XG_split (fun hq => ?_) (fun hq => ?_) | refine MX1.of 4000 (by simp) ?_ | refine MX2.of 4000 (by simp) ?_ | refine And.intro ?_ ?_) | ((with_reducible first | refine Or.inl (And.intro (And.intro mixedP ?_) ?_) | refine Or.inl (And.intro mixedP ?_)); kernel_rfl) | simp only [go_sem,Nat.reduceEqDiff,Nat.reduceAdd,Nat.reduceMul,Nat.reduceLeDiff,Int.reduceBEq,Lit.av,Lit.bx,showSt,Term.av,Int.lt_irrefl,decide_false,dStrs,List.length_map,htk,hm,hd0,empty_str,cvals,cval,c3,c4,k2,hown])
           all_goals first | exact hw | exact ⟨by rw [List.length_map]; omega, by omega⟩ | skip
           all_goals try simp only [ByteArray.size_append, s1, s2, s3, s4, s5, s6, s7, j3', Int.natCast_add]
           all_goals first | omega | (unfold maxLen; omega) | (right; omega) | (left; simp; done) | (simp only [wk3,wkL2,wk2,wkL,wk1_d,wk1_own,wk1_nil,and_self]; done) | (intro i hi; simp only [upd]; (repeat' split); all_goals first | rfl | omega) | skip
           all_goals first | (refine wk_v (congrArg Value.string ?_); rw [hT]; done) | (refine wk_v (congrArg Value.string ?_); rw [hT]; refine ext_data ?_; simp [ByteArray.data_append]; done)
       | false =>
         rw [k2] at hT
         rcases Nat.eq_zero_or_pos l.args.length with hz | hz
         · have hnil : l.args = [] := List.eq_nil_of_length_eq_zero hz
           rw [hz] at hT
           simp only [Nat.lt_irrefl, if_false, if_true, Bool.false_eq_true] at hT
           rw [hz]
           repeat' (first | (with_reducible first | refine XG_split (fun hq => ?_) (fun hq => ?_) | refine MX1.of 4000 (by simp) ?_ | refine MX2.of 4000 (by simp) ?_ | refine And.intro ?_ ?_) | ((with_reducible first | refine Or.inl (And.intro (And.intro mixedP ?_) ?_) | refine Or.inl (And.intro mixedP ?_)); kernel_rfl) | simp only [go_sem,Nat.reduceEqDiff,Nat.reduceAdd,Nat.reduceMul,Nat.reduceLeDiff,Int.reduceBEq,Lit.av,Lit.bx,showSt,Term.av,Int.lt_irrefl,decide_false,hz,hnil,empty_str,cvals,cval,c3,c4,k2,hown,List.map_nil])
           all_goals first | exact hw | skip
           all_goals try simp only [ByteArray.size_append, s1, s2, s3, s4, s5, s6, s7, j3', Int.natCast_add]
           all_goals first | omega | (unfold maxLen; omega) | (right; omega) | (left; simp; done) | (simp only [wk3,wkL2,wk2,wkL,wk1_d,wk1_own,wk1_nil,and_self]; done) | (intro i hi; simp only [upd]; (repeat' split); all_goals first | rfl | omega) | skip
           all_goals first | (refine wk_v (congrArg Value.string ?_); rw [hT]; done) | (refine wk_v (congrArg Value.string ?_); rw [hT]; refine ext_data ?_; simp [ByteArray.data_append]; done)
         · obtain ⟨m, hm⟩ : ∃ m, l.args.length = m + 1 := ⟨l.args.length - 1, by omega⟩
           rw [if_pos hz] at hT
           simp only [if_true, if_false, Bool.false_eq_true] at hT
           rw [hm] at htk ⊢
           have hd0 : decide ((0 : Int) < (m : Int) + 1) = true := decide_eq_true (by omega)
           repeat' (first | (with_reducible first | refine XG_split (fun hq => ?_) (fun hq => ?_) | refine MX1.of 4000 (by simp) ?_ | refine MX2.of 4000 (by simp) ?_ | refine And.intro ?_ ?_) | ((with_reducible first | refine Or.inl (And.intro (And.intro mixedP ?_) ?_) | refine Or.inl (And.intro mixedP ?_)); kernel_rfl) | simp only [go_sem,Nat.reduceEqDiff,Nat.reduceAdd,Nat.reduceMul,Nat.reduceLeDiff,Int.reduceBEq,Lit.av,Lit.bx,showSt,Term.av,Int.lt_irrefl,decide_false,dStrs,List.length_map,htk,hm,hd0,empty_str,cvals,cval,c3,c4,k2,hown])
           all_goals first | exact hw | exact ⟨by rw [List.length_map]; omega, by omega⟩ | skip
           all_goals try simp only [ByteArray.size_append, s1, s2, s3, s4, s5, s6, s7, j3', Int.natCast_add]
           all_goals first | omega | (unfold maxLen; omega) | (right; omega) | (left; simp; done) | (simp only [wk3,wkL2,wk2,wkL,wk1_d,wk1_own,wk1_nil,and_self]; done) | (intro i hi; simp only [upd]; (repeat' split); all_goals first | rfl | omega) | skip
           all_goals first | (refine wk_v (congrArg Value.string ?_); rw [hT]; done) | (refine wk_v (congrArg Value.string ?_); rw [hT]; refine ext_data ?_; simp [ByteArray.data_append]; done)
     | false =>
       rw [ho] at hown hT
       have hw20 := hwho ho
       simp only [Bool.false_eq_true, if_false] at hT
       cases k2 : (l.kind == 2) with
       | true =>
         rw [k2] at hT
         rcases Nat.eq_zero_or_pos l.args.length with hz | hz
         · have hnil : l.args = [] := List.eq_nil_of_length_eq_zero hz
           rw [hz] at hT
           simp only [Nat.lt_irrefl, if_false, if_true, Bool.false_eq_true] at hT
           rw [hz]
           repeat' (first | (with_reducible first | refine XG_split (fun hq => ?_) (fun hq => ?_) | refine MX1.of 4000 (by simp) ?_ | refine MX2.of 4000 (by simp) ?_ | refine And.intro ?_ ?_) | ((with_reducible first | refine Or.inl (And.intro (And.intro mixedP ?_) ?_) | refine Or.inl (And.intro mixedP ?_)); kernel_rfl) | simp only [go_sem,Nat.reduceEqDiff,Nat.reduceAdd,Nat.reduceMul,Nat.reduceLeDiff,Int.reduceBEq,Lit.av,Lit.bx,showSt,Term.av,Int.lt_irrefl,decide_false,hz,hnil,empty_str,cvals,cval,c3,c4,k2,hown,List.map_nil])
           all_goals first | exact hw | skip
           all_goals try simp only [ByteArray.size_append, s1, s2, s3, s4, s5, s6, s7, j3', Int.natCast_add]
           all_goals first | omega | (unfold maxLen; omega) | (right; omega) | (left; simp; done) | (simp only [wk3,wkL2,wk2,wkL,wk1_d,wk1_own,wk1_nil,and_self]; done) | (intro i hi; simp only [upd]; (repeat' split); all_goals first | rfl | omega) | skip
           all_goals first | (refine wk_v (congrArg Value.string ?_); rw [hT]; done) | (refine wk_v (congrArg Value.string ?_); rw [hT]; refine ext_data ?_; simp [ByteArray.data_append]; done)
         · obtain ⟨m, hm⟩ : ∃ m, l.args.length = m + 1 := ⟨l.args.length - 1, by omega⟩
           rw [if_pos hz] at hT
           simp only [if_true, if_false, Bool.false_eq_true] at hT
           rw [hm] at htk ⊢
           have hd0 : decide ((0 : Int) < (m : Int) + 1) = true := decide_eq_true (by omega)
           repeat' (first | (with_reducible first | refine XG_split (fun hq => ?_) (fun hq => ?_) | refine MX1.of 4000 (by simp) ?_ | refine MX2.of 4000 (by simp) ?_ | refine And.intro ?_ ?_) | ((with_reducible first | refine Or.inl (And.intro (And.intro mixedP ?_) ?_) | refine Or.inl (And.intro mixedP ?_)); kernel_rfl) | simp only [go_sem,Nat.reduceEqDiff,Nat.reduceAdd,Nat.reduceMul,Nat.reduceLeDiff,Int.reduceBEq,Lit.av,Lit.bx,showSt,Term.av,Int.lt_irrefl,decide_false,dStrs,List.length_map,htk,hm,hd0,empty_str,cvals,cval,c3,c4,k2,hown])
           all_goals first | exact hw | exact ⟨by rw [List.length_map]; omega, by omega⟩ | skip
           all_goals try simp only [ByteArray.size_append, s1, s2, s3, s4, s5, s6, s7, j3', Int.natCast_add]
           all_goals first | omega | (unfold maxLen; omega) | (right; omega) | (left; simp; done) | (simp only [wk3,wkL2,wk2,wkL,wk1_d,wk1_own,wk1_nil,and_self]; done) | (intro i hi; simp only [upd]; (repeat' split); all_goals first | rfl | omega) | skip
           all_goals first | (refine wk_v (congrArg Value.string ?_); rw [hT]; done) | (refine wk_v (congrArg Value.string ?_); rw [hT]; refine ext_data ?_; simp [ByteArray.data_append]; done)
       | false =>
         rw [k2] at hT
         rcases Nat.eq_zero_or_pos l.args.length with hz | hz
         · have hnil : l.args = [] := List.eq_nil_of_length_eq_zero hz
           rw [hz] at hT
           simp only [Nat.lt_irrefl, if_false, if_true, Bool.false_eq_true] at hT
           rw [hz]
           repeat' (first | (with_reducible first | refine XG_split (fun hq => ?_) (fun hq => ?_) | refine MX1.of 4000 (by simp) ?_ | refine MX2.of 4000 (by simp) ?_ | refine And.intro ?_ ?_) | ((with_reducible first | refine Or.inl (And.intro (And.intro mixedP ?_) ?_) | refine Or.inl (And.intro mixedP ?_)); kernel_rfl) | simp only [go_sem,Nat.reduceEqDiff,Nat.reduceAdd,Nat.reduceMul,Nat.reduceLeDiff,Int.reduceBEq,Lit.av,Lit.bx,showSt,Term.av,Int.lt_irrefl,decide_false,hz,hnil,empty_str,cvals,cval,c3,c4,k2,hown,List.map_nil])
           all_goals first | exact hw | skip
           all_goals try simp only [ByteArray.size_append, s1, s2, s3, s4, s5, s6, s7, j3', Int.natCast_add]
           all_goals first | omega | (unfold maxLen; omega) | (right; omega) | (left; simp; done) | (simp only [wk3,wkL2,wk2,wkL,wk1_d,wk1_own,wk1_nil,and_self]; done) | (intro i hi; simp only [upd]; (repeat' split); all_goals first | rfl | omega) | skip
           all_goals first | (refine wk_v (congrArg Value.string ?_); rw [hT]; done) | (refine wk_v (congrArg Value.string ?_); rw [hT]; refine ext_data ?_; simp [ByteArray.data_append]; done)
         · obtain ⟨m, hm⟩ : ∃ m, l.args.length = m + 1 := ⟨l.args.length - 1, by omega⟩
           rw [if_pos hz] at hT
           simp only [if_true, if_false, Bool.false_eq_true] at hT
           rw [hm] at htk ⊢
           have hd0 : decide ((0 : Int) < (m : Int) + 1) = true := decide_eq_true (by omega)
           repeat' (first | (with_reducible first | refine XG_split (fun hq => ?_) (fun hq => ?_) | refine MX1.of 4000 (by simp) ?_ | refine MX2.of 4000 (by simp) ?_ | refine And.intro ?_ ?_) | ((with_reducible first | refine Or.inl (And.intro (And.intro mixedP ?_) ?_) | refine Or.inl (And.intro mixedP ?_)); kernel_rfl) | simp only [go_sem,Nat.reduceEqDiff,Nat.reduceAdd,Nat.reduceMul,Nat.reduceLeDiff,Int.reduceBEq,Lit.av,Lit.bx,showSt,Term.av,Int.lt_irrefl,decide_false,dStrs,List.length_map,htk,hm,hd0,empty_str,cvals,cval,c3,c4,k2,hown])
           all_goals first | exact hw | exact ⟨by rw [List.length_map]; omega, by omega⟩ | skip
           all_goals try simp only [ByteArray.size_append, s1, s2, s3, s4, s5, s6, s7, j3', Int.natCast_add]
           all_goals first | omega | (unfold maxLen; omega) | (right; omega) | (left; simp; done) | (simp only [wk3,wkL2,wk2,wkL,wk1_d,wk1_own,wk1_nil,and_self]; done) | (intro i hi; simp only [upd]; (repeat' split); all_goals first | rfl | omega) | skip
           all_goals first | (refine wk_v (congrArg Value.string ?_); rw [hT]; done) | (refine wk_v (congrArg Value.string ?_); rw [hT]; refine ext_data ?_; simp [ByteArray.data_append]; done)
end Go.Proofs.Ytdhocmakbapfpaa.M
end
section
namespace Go.Proofs.Ytdhocmakbapfpaa.M
open Go.R
set_option maxRecDepth 10000 in
set_option maxHeartbeats 8000000 in
theorem pprintLit_ok : FsOk Try.prog 21 pprintLitS := by
 refine of_Y1 (E := EqT.no _) (F := (Ft.no.put 25 pcheckLitS).put 48 showS) Lit.av (fun _ _ => aLit_le) Try.func21 rfl (by kernel_rfl) [.tmp 2, .tmp 3] rfl Try.ntmps21 (by decide) (((FtOk.no _).put pcheckLit_ok).put show_ok) ?_
 intro l h n hp hok
 obtain ⟨hi, hz⟩ := hp
 cases hck : checkLitB l with
 | false =>
   have hS : printLitB l = (⟨#[]⟩, 1) := by unfold printLitB; rw [hck]; rfl
   repeat' (first | (with_reducible first | refine XG_split (fun hq => ?_) (fun hq => ?_) | refine MX1.of 4000 (by simp) ?_ | refine MX2.of 4000 (by simp) ?_ | refine And.intro ?_ ?_) | ((with_reducible first | refine Or.inl (And.intro (And.intro mixedP ?_) ?_) | refine Or.inl (And.intro mixedP ?_)); kernel_rfl) | simp only [go_sem,Nat.reduceEqDiff,Nat.reduceAdd,Nat.reduceMul,Nat.reduceLeDiff,Int.reduceBEq,Lit.av,hck,hS])
   all_goals first | exact hz | exact hi | skip
   all_goals first | omega | (unfold maxLen; omega) | (right; omega) | (left; simp; done) | (simp only [wk3,wkL2,wk2,wkL,wk1_d,wk1_own,wk1_nil,and_self]; done) | (intro i hi; simp only [upd]; (repeat' split); all_goals first | rfl | omega) | skip
 | true =>
   have hS : printLitB l = (litText l, 0) := by unfold printLitB; rw [hck]; rfl
   have hg := checkLit_literal hck
   repeat' (first | (with_reducible first | refine XG_split (fun hq => ?_) (fun hq => ?_) | refine MX1.of 4000 (by simp) ?_ | refine MX2.of 4000 (by simp) ?_ | refine And.intro ?_ ?_) | ((with_reducible first | refine Or.inl (And.intro (And.intro mixedP ?_) ?_) | refine Or.inl (And.intro mixedP ?_)); kernel_rfl) | simp only [go_sem,Nat.reduceEqDiff,Nat.reduceAdd,Nat.reduceMul,Nat.reduceLeDiff,Int.reduceBEq,Lit.av,hck,hS])
   all_goals first | exact hz | exact hi | exact hg | skip
   all_goals first | omega | (unfold maxLen; omega) | (right; omega) | (left; simp; done) | (simp only [wk3,wkL2,wk2,wkL,wk1_d,wk1_own,wk1_nil,and_self]; done) | (intro i hi; simp only [upd]; (repeat' split); all_goals first | rfl | omega) | skip
set_option maxRecDepth 10000 in
set_option maxHeartbeats 8000000 in
theorem pprint_ok : FsOk Try.prog 18 pprintS := by
 refine of_Y1 (E := EqT.no _) (F := (Ft.no.put 24 pcheckS).put 48 showS) Clause.av (fun _ _ => aClause_le) Try.func18 rfl (by kernel_rfl) [.tmp 2, .tmp 3] rfl Try.ntmps18 (by decide) (((FtOk.no _).put pcheck_ok).put show_ok) ?_
 intro c h n hp hok
 obtain ⟨⟨hp1, hp2⟩, hz⟩ := hp
 cases hck : checkB c with
 | false =>
   have hS : printB c = (⟨#[]⟩, 1) := by unfold printB; rw [hck]; rfl
   repeat' (first | (with_reducible first | refine XG_split (fun hq => ?_) (fun hq => ?_) | refine MX1.of 4000 (by simp) ?_ | refine MX2.of 4000 (by simp) ?_ | refine And.intro ?_ ?_) | ((with_reducible first | refine Or.inl (And.intro (And.intro mixedP ?_) ?_) | refine Or.inl (And.intro mixedP ?_)); kernel_rfl) | simp only [go_sem,Nat.reduceEqDiff,Nat.reduceAdd,Nat.reduceMul,Nat.reduceLeDiff,Int.reduceBEq,Clause.av,hck,hS])
   all_goals first | exact hz | skip
   all_goals first | omega | (unfold maxLen; omega) | (right; omega) | (left; simp; done) | (simp only [wk3,wkL2,wk2,wkL,wk1_d,wk1_own,wk1_nil,and_self]; done) | (intro i hi; simp only [upd]; (repeat' split); all_goals first | rfl | omega) | skip
 | true =>
   have hS : printB c = (clauseText c, 0) := by unfold printB; rw [hck]; rfl
   have hc := hck
   simp only [checkB, Bool.and_eq_true, decide_eq_true_eq] at hc
   obtain ⟨⟨⟨hc1, hc2⟩, hc3⟩, hc4⟩ := hc
   have hgh := checkLit_literal hc1
   have hz0 := litText_size hp1 hgh
   have hok' : HOk (n + 1) (upd h n (.box c.ds)) := (hok.mono (Nat.le_succ n)).upd_box (Nat.lt_succ_self n) (by simp only [go_sem, Clause.ds])
   have f1 : #[(32 : UInt8), 58, 45, 32].size = 4 := rfl
   have f2 : #[(44 : UInt8), 32].size = 2 := rfl
   have f3 : #[(46 : UInt8)].size = 1 := rfl
   have g1 : (⟨#[32, 58, 45, 32]⟩ : ByteArray).size = 4 := rfl
   have g2 : (⟨#[44, 32]⟩ : ByteArray).size = 2 := rfl
   have g3 : (⟨#[46]⟩ : ByteArray).size = 1 := rfl
   repeat' (first | (with_reducible first | refine XG_split (fun hq => ?_) (fun hq => ?_) | refine MX1.of 4000 (by simp) ?_ | refine MX2.of 4000 (by simp) ?_ | refine And.intro ?_ ?_) | ((with_reducible first | refine Or.inl (And.intro (And.intro mixedP ?_) ?_) | refine Or.inl (And.intro mixedP ?_)); kernel_rfl) | simp only [go_sem,Nat.reduceEqDiff,Nat.reduceAdd,Nat.reduceMul,Nat.reduceLeDiff,Int.reduceBEq,Clause.av,Clause.ds,Lit.av,hck])
   all_goals first | exact hz | exact hp1 | exact hgh | skip
   all_goals first | omega | (unfold maxLen; omega) | (right; omega) | (left; simp; done) | (simp only [wk3,wkL2,wk2,wkL,wk1_d,wk1_own,wk1_nil,and_self]; done) | (intro i hi; simp only [upd]; (repeat' split); all_goals first | rfl | omega) | skip
   refine AW.loopJ (E := EqT.no _) (S := fun x : Nat × ByteArray => ⟨fr [(1, .p n 0), (4, vS x.2), (14, .d (.sl 6 (c.body.map Lit.cells))), (15, vI c.body.length), (16, vI x.1)] (List.replicate 35 .any), upd h n (.box c.ds), n, n + 1⟩)
    (I := fun x => x.1 ≤ c.body.length ∧ x.2.size ≤ 200 + 300 * x.1 ∧ bodyGo x.1 x.2 (c.body.drop x.1) = bodyGo 0 (litText c.head) c.body) (μ := fun x => c.body.length - x.1) (0, litText c.head) ⟨Nat.zero_le _, by simp only; omega, rfl⟩ ?_ 4000 (fun _ => by simp only [fr_len, List.length_replicate]; decide) ?_
   · exact Wk.same (by simp only [go_sem, Clause.ds]) hok' (Nat.le_succ n) (by simp only [go_sem]; omega)
   · rintro ⟨k, out⟩ ⟨hk, hsz, hI⟩
     have hk : k ≤ c.body.length := hk
     have hsz : out.size ≤ 200 + 300 * k := hsz
     have hI : bodyGo k out (c.body.drop k) = bodyGo 0 (litText c.head) c.body := hI
     rcases Nat.lt_or_ge k c.body.length with hkl | hkl
     · have hin := List.getElem_mem hkl
       have ht := hp2 _ hin
       have hg : literalB c.body[k] = true := by rw [List.all_eq_true] at hc4; exact hc4 _ hin
       have hzl := litText_size ht hg
       rw [List.drop_eq_getElem_cons hkl] at hI
       cases k with
       | zero =>
         have hI' : bodyGo (0 + 1) (out ++ ((⟨#[32, 58, 45, 32]⟩ : ByteArray) ++ litText c.body[0])) (c.body.drop (0 + 1)) = bodyGo 0 (litText c.head) c.body := by
          rw [← hI, bodyGo, ByteArray.append_assoc]
         have m0 : (if (1 : Int) < 0 then (1 : Int) else 0) = 0 := rfl
         have m1 : (1 : Int) - 0 = 1 := rfl
         repeat' (first | (with_reducible refine Or.inr (AW.treeX (E := EqT.no _) [] [0,2,3,4,7] (.two 1 (.two 5 (.two 6 (.one 8 (.one 9 (.one 10 (.one 11 .fin)))) 8 (.one 6 (.one 9 (.one 10 (.one 11 .fin))))) 8 (.one 5 (.one 6 (.one 9 (.one 10 (.one 11 .fin)))))) 8 (.one 1 (.one 5 (.one 6 (.one 9 (.one 10 (.one 11 .fin))))))) mixedP ?_ ?_ ?_ ?_); decide +kernel; (simp only [List.length_cons,List.length_nil]; decide); (intro j hj; exact absurd hj List.not_mem_nil)) | (with_reducible refine (AW.treeX (E := EqT.no _) [] [0,2,3,4,7] (.two 1 (.two 5 (.two 6 (.one 8 (.one 9 (.one 10 (.one 11 .fin)))) 8 (.one 6 (.one 9 (.one 10 (.one 11 .fin))))) 8 (.one 5 (.one 6 (.one 9 (.one 10 (.one 11 .fin)))))) 8 (.one 1 (.one 5 (.one 6 (.one 9 (.one 10 (.one 11 .fin))))))) mixedP ?_ ?_ ?_ ?_); decide +kernel; (simp only [List.length_cons,List.length_nil]; decide); (intro j hj; exact absurd hj List.not_mem_nil)) | (with_reducible refine MTq.of 4000 (by simp) ?_ ?_) | (with_reducible refine MTq.nil ?_) | (with_reducible refine MT.one 4000 (by simp) ?_) | (with_reducible refine MT.two 4000 (by simp) ?_ ?_) | (with_reducible refine MT.fin ?_) | (with_reducible first | refine XG_split (fun hq => ?_) (fun hq => ?_) | refine MX1.of 4000 (by simp) ?_ | refine MX2.of 4000 (by simp) ?_ | refine And.intro ?_ ?_) | ((with_reducible first | refine Or.inl (And.intro (And.intro mixedP ?_) ?_) | refine Or.inl (And.intro mixedP ?_)); kernel_rfl) | simp only [go_sem,ldK,ldW,blindK,List.mem_singleton,List.not_mem_nil,Nat.reduceEqDiff,Nat.reduceAdd,Nat.reduceMul,Nat.reduceLeDiff,Int.reduceBEq,Clause.ds,Lit.av,decide_eq_true hkl,List.getElem?_eq_getElem hkl,m0,m1,Int.zero_add])
         all_goals first | exact ht | exact hg | skip
         all_goals try simp only [ByteArray.size_append, f1, f2, g1, g2, Int.natCast_add]
         all_goals first | omega | (unfold maxLen; omega) | (right; omega) | (left; simp; done) | (simp only [wk3,wkL2,wk2,wkL,wk1_d,wk1_own,wk1_nil,and_self]; done) | (intro i hi; simp only [upd]; (repeat' split); all_goals first | rfl | omega) | skip
         all_goals exact ⟨((0 + 1, out ++ ((⟨#[32, 58, 45, 32]⟩ : ByteArray) ++ litText c.body[0])) : Nat × ByteArray), ⟨by show 0 + 1 ≤ _; omega, by simp only [ByteArray.size_append, g1]; omega, hI'⟩, Wk.of (by simp only [go_sem]) (by intro i hi; simp only [upd]; (repeat' split); all_goals first | rfl | omega) hok' (by omega) (by omega) (by simp only [go_sem]; omega), by simp only; omega⟩
       | succ k =>
         have hI' : bodyGo (k + 1 + 1) (out ++ ((⟨#[44, 32]⟩ : ByteArray) ++ litText c.body[k + 1])) (c.body.drop (k + 1 + 1)) = bodyGo 0 (litText c.head) c.body := by
          rw [← hI, bodyGo, ByteArray.append_assoc]
         have m0 : (if (1 : Int) < (k : Int) + 1 then (1 : Int) else (k : Int) + 1) = 1 := by split <;> omega
         have m1 : (1 : Int) - 1 = 0 := rfl
         repeat' (first | (with_reducible refine Or.inr (AW.treeX (E := EqT.no _) [] [0,2,3,4,7] (.two 1 (.two 5 (.two 6 (.one 8 (.one 9 (.one 10 (.one 11 .fin)))) 8 (.one 6 (.one 9 (.one 10 (.one 11 .fin))))) 8 (.one 5 (.one 6 (.one 9 (.one 10 (.one 11 .fin)))))) 8 (.one 1 (.one 5 (.one 6 (.one 9 (.one 10 (.one 11 .fin))))))) mixedP ?_ ?_ ?_ ?_); decide +kernel; (simp only [List.length_cons,List.length_nil]; decide); (intro j hj; exact absurd hj List.not_mem_nil)) | (with_reducible refine (AW.treeX (E := EqT.no _) [] [0,2,3,4,7] (.two 1 (.two 5 (.two 6 (.one 8 (.one 9 (.one 10 (.one 11 .fin)))) 8 (.one 6 (.one 9 (.one 10 (.one 11 .fin))))) 8 (.one 5 (.one 6 (.one 9 (.one 10 (.one 11 .fin)))))) 8 (.one 1 (.one 5 (.one 6 (.one 9 (.one 10 (.one 11 .fin))))))) mixedP ?_ ?_ ?_ ?_); decide +kernel; (simp only [List.length_cons,List.length_nil]; decide); (intro j hj; exact absurd hj List.not_mem_nil)) | (with_reducible refine MTq.of 4000 (by simp) ?_ ?_) | (with_reducible refine MTq.nil ?_) | (with_reducible refine MT.one 4000 (by simp) ?_) | (with_reducible refine MT.two 4000 (by simp) ?_ ?_) | (with_reducible refine MT.fin ?_) | (with_reducible first | refine XG_split (fun hq => ?_) (fun hq => ?_) | refine MX1.of 4000 (by simp) ?_ | refine MX2.of 4000 (by simp) ?_ | refine And.intro ?_ ?_) | ((with_reducible first | refine Or.inl (And.intro (And.intro mixedP ?_) ?_) | refine Or.inl (And.intro mixedP ?_)); kernel_rfl) | simp only [go_sem,ldK,ldW,blindK,List.mem_singleton,List.not_mem_nil,Nat.reduceEqDiff,Nat.reduceAdd,Nat.reduceMul,Nat.reduceLeDiff,Int.reduceBEq,Clause.ds,Lit.av,dnat1 hkl,toNat1,List.getElem?_eq_getElem hkl,m0,m1])
         all_goals first | exact ht | exact hg | skip
         all_goals try simp only [ByteArray.size_append, f1, f2, g1, g2, Int.natCast_add]
         all_goals first | omega | (unfold maxLen; omega) | (right; omega) | (left; simp; done) | (simp only [wk3,wkL2,wk2,wkL,wk1_d,wk1_own,wk1_nil,and_self]; done) | (intro i hi; simp only [upd]; (repeat' split); all_goals first | rfl | omega) | skip
         all_goals exact ⟨((k + 1 + 1, out ++ ((⟨#[44, 32]⟩ : ByteArray) ++ litText c.body[k + 1])) : Nat × ByteArray), ⟨by show k + 1 + 1 ≤ _; omega, by simp only [ByteArray.size_append, g2]; omega, hI'⟩, Wk.of (by simp only [go_sem]) (by intro i hi; simp only [upd]; (repeat' split); all_goals first | rfl | omega) hok' (by omega) (by omega) (by simp only [go_sem]; omega), by simp only; omega⟩
     · obtain rfl : k = c.body.length := by omega
       rw [List.drop_length] at hI
       have hout : out = bodyGo 0 (litText c.head) c.body := by
        rw [← hI]
        cases c.body.length <;> rfl
       repeat' (first | (with_reducible first | refine XG_split (fun hq => ?_) (fun hq => ?_) | refine MX1.of 4000 (by simp) ?_ | refine MX2.of 4000 (by simp) ?_ | refine And.intro ?_ ?_) | ((with_reducible first | refine Or.inl (And.intro (And.intro mixedP ?_) ?_) | refine Or.inl (And.intro mixedP ?_)); kernel_rfl) | simp only [go_sem,Nat.reduceEqDiff,Nat.reduceAdd,Nat.reduceMul,Nat.reduceLeDiff,Int.reduceBEq,Clause.ds,Nat.lt_irrefl,Int.lt_irrefl,decide_false])
       all_goals try simp only [ByteArray.size_append, f3, Int.natCast_add]
       all_goals first | omega | (unfold maxLen; omega) | (right; omega) | (left; simp; done) | (simp only [wk3,wkL2,wk2,wkL,wk1_d,wk1_own,wk1_nil,and_self]; done) | (intro i hi; simp only [upd]; (repeat' split); all_goals first | rfl | omega) | skip
       all_goals (refine wk3_eq ?_; simp [hS, clauseText, hout])
end Go.Proofs.Ytdhocmakbapfpaa.M
end
section
namespace Go.R
section
variable {c : Cx} {s : St} {a : Act} {w w0 : World} {h h0 : AH} {n : Nat} {T : List Nat}
theorem Wd.rebox (hw : Wd c h n w) {i : Nat} {cs cs' : List AV} (hi : h i = .box cs) (hl : cs.length = cs'.length)
 (hr : ∀ (j : Nat) v x x', cs[j]? = some x → cs'[j]? = some x' → ARep c h w v x → ARep c h w v x') : Wd c (upd h i (.box cs')) n w ∧ Ext c h w c (upd h i (.box cs')) w := by
 have q : Ext c h w c (upd h i (.box cs')) w := by
  refine ⟨rfl, rfl, rfl, Nat.le_refl _, fun _ _ q => q, fun _ _ _ => rfl, fun b q => ⟨q, rfl⟩, fun k cs2 hk => ?_, fun k m z hk => ?_⟩
  · by_cases e : k = i
    · subst e; exact ⟨rfl, cs', upd_same _ _ _⟩
    · exact ⟨rfl, cs2, by rw [upd_ne _ _ e]; exact hk⟩
  · have e : k ≠ i := fun e => by rw [e, hi] at hk; cases hk
    exact ⟨m, by rw [upd_ne _ _ e]; exact hk, Nat.le_refl _, fun _ => rfl⟩
 have hblk : ∀ k, ((upd h i (.box cs')) k).blk c k = (h k).blk c k := by
  intro k
  by_cases e : k = i
  · subst e; rw [upd_same, hi]; rfl
  · rw [upd_ne _ _ e]
 have tok : ∀ k m z, upd h i (.box cs') k = .tok m z → h k = .tok m z := fun k m z hk => by
  by_cases e : k = i
  · subst e; rw [upd_same] at hk; cases hk
  · rw [upd_ne _ _ e] at hk; exact hk
 refine ⟨⟨fun k cs2 hk => ?_, fun k m z cap hk => hw.tokN k m z cap (tok k m z hk), fun k m z a cap hk => hw.tokS k m z a cap (tok k m z hk), fun k j b hkj h1 h2 => hw.ne k j b hkj (by rw [← hblk]; exact h1) (by rw [← hblk]; exact h2), hw.fresh, fun k hk => ?_⟩, q⟩
 · by_cases e : k = i
   · subst e
     rw [upd_same] at hk
     cases hk
     obtain ⟨h1, vals, ty, h2, h3, h4⟩ := hw.box k cs hi
     refine ⟨h1, vals, ty, h2, by rw [h3, hl], fun j v x' hv hx' => ?_⟩
     have hj : j < cs.length := by rw [hl]; exact (List.getElem?_eq_some_iff.1 hx').1
     exact (hr j v _ x' (List.getElem?_eq_getElem hj) hx' (h4 j v _ hv (List.getElem?_eq_getElem hj))).to q
   · rw [upd_ne _ _ e] at hk
     obtain ⟨h1, vals, ty, h2, h3, h4⟩ := hw.box k cs2 hk
     exact ⟨h1, vals, ty, h2, h3, fun j v x hv hx => (h4 j v x hv hx).to q⟩
 · have e : k ≠ i := fun e => by have := hw.new k hk; rw [e, hi] at this; cases this
   rw [upd_ne _ _ e]
   exact hw.new k hk
theorem Wk.nilBox {t : List AV} {b i : Nat} (z : Nat) (hi : h i = .box [.d (.v (.slice none 0 0))]) : Wk T ⟨t, h, b, n⟩ ⟨t, upd (upd h n (.tok 0 z)) i (.box [.own n z []]), b, n + 1⟩ := by
 refine ⟨rfl, rfl, fun c0 h0 w0 c a w I => ⟨{ c with τ := upd c.τ n (none, 0) }, ?_⟩⟩
 have hin : i ≠ n := fun e => by
  have h1 : h n = .no := I.srep.wd.new n (Nat.le_refl _)
  rw [e, h1] at hi
  cases hi
 obtain ⟨g1, g2⟩ := I.srep.wd.newNil z
 have hfr := newNil_fr (T := may T b) I.srep.wd z
 have I2 := I.next (d := none) (v := .bool false) (r := .any) g1 g2 hfr (.any _) (Nat.le_succ _)
 have hi2 : (upd h n (.tok 0 z)) i = .box [.d (.v (.slice none 0 0))] := by rw [upd_ne _ _ hin]; exact hi
 obtain ⟨g3, g4⟩ := g1.rebox (cs' := [.own n z []]) hi2 rfl (fun j v x x' hx hx' r => by
  cases j with
  | zero =>
    simp only [List.getElem?_cons_zero, Option.some.injEq] at hx hx'
    subst hx
    subst hx'
    obtain rfl := cval_rep r rfl
    exact nil_own c h w n z
  | succ j => simp at hx)
 exact I2.next (d := none) (v := .bool false) (r := .any) g3 g4 ⟨fun _ _ _ => rfl, fun k b hk _ => by
  show ((upd h n (.tok 0 z)) k).blk _ k = some b
  by_cases e : k = i
  · subst e; rw [upd_same] at hk; rw [hi2]; exact hk
  · rw [upd_ne _ _ e] at hk; exact hk⟩ (.any _) (Nat.le_refl _)
end
end Go.R
namespace Go.Proofs.Ytdhocmakbapfpaa.M
open Go.R
theorem aStrs_le {x : AV} {l : List ByteArray} (h : aStrs x = some l) : AV.le x (.d (.sl 1 (l.map strRow))) := by
 unfold aStrs at h
 cases hr : rowsOf 1 x with
 | none => simp [hr] at h
 | some xs =>
   simp only [hr] at h
   rw [← dRows_eq (fun c x => cStr_eq) h]
   exact AV.le.rows hr
abbrev sIdxS : Fs := .pureIf (g2p aStrs aStr fun l _ => l.length ≤ 1099511627776) (g2 aStrs aStr fun l s => vI (idxL (fun x => s.toList == x.toList) l))
abbrev sHasS : Fs := .pureIf (g2p aStrs aStr fun l _ => l.length ≤ 1099511627776) (g2 aStrs aStr fun l s => vB (l.any fun x => s.toList == x.toList))
set_option maxRecDepth 10000 in
set_option maxHeartbeats 4000000 in
theorem sIdx_ok : FsOk Try.prog 80 sIdxS := by
 refine of_Y2 (E := EqT.no _) (F := Ft.no) (fun l => .d (.sl 1 (l.map strRow))) vS (fun _ _ => aStrs_le) (fun _ _ => aStr_le) Try.func80 rfl (by kernel_rfl) [.tmp 4] rfl Try.ntmps80 (by decide) (FtOk.no _) ?_
 intro l s h n hp hok
 repeat' (first | (with_reducible first | refine XG_split (fun hq => ?_) (fun hq => ?_) | refine MX1.of 4000 (by simp) ?_ | refine MX2.of 4000 (by simp) ?_ | refine And.intro ?_ ?_) | ((with_reducible first | refine Or.inl (And.intro (And.intro mixedP ?_) ?_) | refine Or.inl (And.intro mixedP ?_)); kernel_rfl) | simp only [go_sem,Nat.reduceEqDiff,Nat.reduceAdd,Nat.reduceMul,Nat.reduceLeDiff,Int.reduceBEq])
 all_goals first | omega | (unfold maxLen; omega) | (right; omega) | (left; simp; done) | (simp only [wk3,wkL2,wk2,wkL,wk1_d,wk1_own,wk1_nil,and_self]; done) | (intro i hi; simp only [upd]; (repeat' split); all_goals first | rfl | omega) | skip
 refine AW.loopJ (E := EqT.no _) (S := fun k : Nat => ⟨fr [(0, .d (.sl 1 (l.map strRow))), (1, vS s), (7, vI l.length), (8, vI k)] (List.replicate 19 .any), h, n, n⟩) (I := fun k => k ≤ l.length ∧ ∀ i, (hi : i < k) → (hl : i < l.length) → (s.toList == l[i].toList) = false) (μ := fun k => l.length - k) 0 ⟨Nat.zero_le _, fun i hi => absurd hi (Nat.not_lt_zero i)⟩ ?_ 4000 (fun _ => by simp only [fr_len, List.length_replicate]; decide) ?_
 · exact Wk.same (by simp only [go_sem]) hok (Nat.le_refl _) (by simp only [go_sem])
 · rintro k ⟨hk, hA⟩
   rcases Nat.lt_or_ge k l.length with hkl | hkl
   · cases hq : s.toList == l[k].toList with
     | true =>
       have hR := idx_hit (p := fun x : ByteArray => s.toList == x.toList) hkl hq fun i hi => hA i hi (by omega)
       repeat' (first | (with_reducible first | refine XG_split (fun hq => ?_) (fun hq => ?_) | refine MX1.of 4000 (by simp) ?_ | refine MX2.of 4000 (by simp) ?_ | refine And.intro ?_ ?_) | ((with_reducible first | refine Or.inl (And.intro (And.intro mixedP ?_) ?_) | refine Or.inl (And.intro mixedP ?_)); kernel_rfl) | simp only [go_sem,Nat.reduceEqDiff,Nat.reduceAdd,Nat.reduceMul,Nat.reduceLeDiff,Int.reduceBEq,decide_eq_true hkl,List.getElem?_eq_getElem hkl,strRow,hq,hR])
       all_goals first | omega | (unfold maxLen; omega) | (right; omega) | (left; simp; done) | (simp only [wk3,wkL2,wk2,wkL,wk1_d,wk1_own,wk1_nil,and_self]; done) | (intro i hi; simp only [upd]; (repeat' split); all_goals first | rfl | omega) | skip
     | false =>
       repeat' (first | (with_reducible first | refine XG_split (fun hq => ?_) (fun hq => ?_) | refine MX1.of 4000 (by simp) ?_ | refine MX2.of 4000 (by simp) ?_ | refine And.intro ?_ ?_) | ((with_reducible first | refine Or.inl (And.intro (And.intro mixedP ?_) ?_) | refine Or.inl (And.intro mixedP ?_)); kernel_rfl) | simp only [go_sem,Nat.reduceEqDiff,Nat.reduceAdd,Nat.reduceMul,Nat.reduceLeDiff,Int.reduceBEq,decide_eq_true hkl,List.getElem?_eq_getElem hkl,strRow,hq])
       all_goals first | omega | (unfold maxLen; omega) | (right; omega) | (left; simp; done) | (simp only [wk3,wkL2,wk2,wkL,wk1_d,wk1_own,wk1_nil,and_self]; done) | (intro i hi; simp only [upd]; (repeat' split); all_goals first | rfl | omega) | skip
       refine ⟨k + 1, ⟨hkl, fun i hi hil => ?_⟩, Wk.same (by simp only [go_sem]) hok (Nat.le_refl _) (by simp only [go_sem]), by omega⟩
       rcases Nat.lt_or_ge i k with h' | h'
       · exact hA i h' hil
       · obtain rfl : i = k := by omega
         exact hq
   · have hR := idx_miss (p := fun x : ByteArray => s.toList == x.toList) (l := l) fun i hi => hA i (by omega) hi
     repeat' (first | (with_reducible first | refine XG_split (fun hq => ?_) (fun hq => ?_) | refine MX1.of 4000 (by simp) ?_ | refine MX2.of 4000 (by simp) ?_ | refine And.intro ?_ ?_) | ((with_reducible first | refine Or.inl (And.intro (And.intro mixedP ?_) ?_) | refine Or.inl (And.intro mixedP ?_)); kernel_rfl) | simp only [go_sem,Nat.reduceEqDiff,Nat.reduceAdd,Nat.reduceMul,Nat.reduceLeDiff,Int.reduceBEq,decide_eq_false (Nat.not_lt.2 hkl),hR])
     all_goals first | omega | (unfold maxLen; omega) | (right; omega) | (left; simp; done) | (simp only [wk3,wkL2,wk2,wkL,wk1_d,wk1_own,wk1_nil,and_self]; done) | (intro i hi; simp only [upd]; (repeat' split); all_goals first | rfl | omega) | skip
set_option maxRecDepth 10000 in
set_option maxHeartbeats 4000000 in
theorem sHas_ok : FsOk Try.prog 56 sHasS := by
 refine of_Y2 (E := EqT.no _) (F := Ft.no.put 80 sIdxS) (fun l => .d (.sl 1 (l.map strRow))) vS (fun _ _ => aStrs_le) (fun _ _ => aStr_le) Try.func56 rfl (by kernel_rfl) [.tmp 4] rfl Try.ntmps56 (by decide) ((FtOk.no _).put sIdx_ok) ?_
 intro l s h n hp hok
 repeat' (first | (with_reducible first | refine XG_split (fun hq => ?_) (fun hq => ?_) | refine MX1.of 4000 (by simp) ?_ | refine MX2.of 4000 (by simp) ?_ | refine And.intro ?_ ?_) | ((with_reducible first | refine Or.inl (And.intro (And.intro mixedP ?_) ?_) | refine Or.inl (And.intro mixedP ?_)); kernel_rfl) | simp only [go_sem,Nat.reduceEqDiff,Nat.reduceAdd,Nat.reduceMul,Nat.reduceLeDiff,Int.reduceBEq,idx_ge])
 all_goals first | omega | (unfold maxLen; omega) | (right; omega) | (left; simp; done) | (simp only [wk3,wkL2,wk2,wkL,wk1_d,wk1_own,wk1_nil,and_self]; done) | (intro i hi; simp only [upd]; (repeat' split); all_goals first | rfl | omega) | skip
def cloH (h : AH) (i : Nat) (l : List ByteArray) : AH := upd (upd h (i + 1) (.tok l.length 1)) i (.box [.own (i + 1) 1 (l.map strRow)])
def cloAt (t : Option Term) (l : Option (List ByteArray)) (i : Nat) (h : AH) (n : Nat) : Option (AV × AH × Nat) := match t, l with
 | some t, some l => some (.tup [], cloH h i (putT l t), n)
 | _, _ => none
def cloBox : AO → Option (List ByteArray)
 | .box [.own _ 1 xs] => dRows cStr xs
 | _ => none
def cloRun : List AV → AH → Nat → Option (AV × AH × Nat)
 | [x, .p i 0], h, n => cloAt (aTerm x) (cloBox (h i)) i h n
 | _, _, _ => none
def cloPre : List AV → AH → Nat → Prop
 | [_, .p i 0], h, n => i + 1 < n ∧ oP (cloBox (h i)) fun l => h (i + 1) = .tok l.length 1 ∧ h i = .box [.own (i + 1) 1 (l.map strRow)] ∧ l.length ≤ 1099511627776
 | _, _, _ => False
def cloTch : List AV → List Nat
 | [_, .p i 0] => [i, i + 1]
 | _ => []
def cloS : Fs := ⟨cloRun, cloPre, cloTch⟩
@[go_sem] theorem clo_run (x : AV) (i : Nat) (h : AH) (n : Nat) : cloS.run [x, .p i 0] h n = cloAt (aTerm x) (cloBox (h i)) i h n := rfl
@[go_sem] theorem clo_pre (x : AV) (i : Nat) (h : AH) (n : Nat) : cloS.pre [x, .p i 0] h n = (i + 1 < n ∧ oP (cloBox (h i)) fun l => h (i + 1) = .tok l.length 1 ∧ h i = .box [.own (i + 1) 1 (l.map strRow)] ∧ l.length ≤ 1099511627776) := rfl
@[go_sem] theorem clo_tch (x : AV) (i : Nat) : cloS.tch [x, .p i 0] = [i, i + 1] := rfl
@[go_sem] theorem clo_at (t : Term) (l : List ByteArray) (i : Nat) (h : AH) (n : Nat) : cloAt (some t) (some l) i h n = some (.tup [], cloH h i (putT l t), n) := rfl
@[go_sem] theorem clo_box (k : Nat) (l : List ByteArray) : cloBox (.box [.own k 1 (l.map strRow)]) = some l := by
  show dRows cStr (l.map strRow) = some l
  exact dStrs l
theorem any_swap (l : List ByteArray) (s : ByteArray) : (l.any fun x => s.toList == x.toList) = l.any fun x => x.toList == s.toList := by
 induction l with
 | nil => rfl
 | cons a l ih => rw [List.any_cons, List.any_cons, ih, BEq.comm]
def Term.bx (t : Term) : List AV := t.cells.map .d
set_option maxRecDepth 10000 in
set_option maxHeartbeats 4000000 in
theorem clo_ok : FsOk Try.prog 55 cloS := by
 refine FsOk.of_X (E := EqT.no _) (F := Ft.no.put 56 sHasS) Try.func55 rfl (by kernel_rfl) (rs := []) rfl Try.ntmps55 ((FtOk.no _).put sHas_ok) ?_
 intro args h n r h' n' hp hr hok
 simp only [cloS] at hp hr ⊢
 unfold cloRun at hr
 split at hr
 · rename_i x i
   cases hx : aTerm x with
   | none => simp [cloAt, hx] at hr
   | some t =>
     cases hl : cloBox (h i) with
     | none => simp [cloAt, hx, hl] at hr
     | some l =>
       obtain ⟨hi, hp⟩ := hp
       obtain ⟨hk, hb, hlen⟩ := hp l hl
       rw [hx, hl] at hr
       simp only [clo_at, Option.some.injEq, Prod.mk.injEq] at hr
       obtain ⟨rfl, rfl, rfl⟩ := hr
       refine ⟨[t.av, .p i 0], ⟨aTerm_le hx, AV.le.refl _, trivial⟩, ⟨by decide, by simp⟩, ?_⟩
       have hin : i ≠ n := by omega
       have hin1 : i + 1 ≠ n := by omega
       have hb2 : ∀ x, upd h n x i = .box [.own (i + 1) 1 (l.map strRow)] := fun x => (upd_ne _ _ hin).trans hb
       have hk2 : ∀ x, upd h n x (i + 1) = .tok l.length 1 := fun x => (upd_ne _ _ hin1).trans hk
       have hno : ∀ m j, n ≤ j → cloH h i m j = .no := fun m j hj => by
        unfold cloH
        rw [upd_ne _ _ (by omega), upd_ne _ _ (by omega)]
        exact hok.no j hj
       have hbx : ∀ m j cs, j < n → cloH h i m j = .box cs → h j = .box cs ∨ ltL n cs := fun m j cs _ e => by
        unfold cloH at e
        by_cases e1 : j = i
        · subst e1
          rw [upd_same] at e
          cases e
          exact .inr ⟨hi, trivial⟩
        · rw [upd_ne _ _ e1] at e
          by_cases e2 : j = i + 1
          · subst e2; rw [upd_same] at e; cases e
          · rw [upd_ne _ _ e2] at e; exact .inl e
       have sm : putT l t = l → ∀ j, j < n → cloH h i l j = h j := fun _ j _ => by
        unfold cloH
        by_cases e1 : j = i
        · subst e1; rw [upd_same, hb]
        · rw [upd_ne _ _ e1]
          by_cases e2 : j = i + 1
          · subst e2; rw [upd_same, hk]
          · rw [upd_ne _ _ e2]
       cases hv : t.var.size == 0 with
       | true =>
         have hpt : putT l t = l := if_neg (by have := beq_iff_eq.1 hv; omega)
         have hsm := sm hpt
         rw [hpt]
         repeat' (first | (with_reducible first | refine XG_split (fun hq => ?_) (fun hq => ?_) | refine MX1.of 4000 (by simp) ?_ | refine MX2.of 4000 (by simp) ?_ | refine And.intro ?_ ?_) | ((with_reducible first | refine Or.inl (And.intro (And.intro mixedP ?_) ?_) | refine Or.inl (And.intro mixedP ?_)); kernel_rfl) | simp only [go_sem,Nat.reduceEqDiff,Nat.reduceAdd,Nat.reduceMul,Nat.reduceLeDiff,Int.reduceBEq,FinE,cloTch,Term.av,hv,hb,hk,hb2,hk2,empty_str])
         all_goals first | omega | (unfold maxLen; omega) | (right; omega) | (left; simp; done) | (simp only [wk3,wkL2,wk2,wkL,wk1_d,wk1_own,wk1_nil,and_self]; done) | (intro i hi; simp only [upd]; (repeat' split); all_goals first | rfl | omega) | skip
         · exact fun j hj => (hsm j hj).symm
         · exact hno l
         · exact hbx l
       | false =>
         have hv1 : 0 < t.var.size := by have := beq_eq_false_iff_ne.1 hv; omega
         cases ha : l.any fun x => t.var.toList == x.toList with
         | true =>
           have hpt : putT l t = l := (if_pos hv1).trans (putL_any (by rw [← any_swap]; exact ha))
           have hsm := sm hpt
           rw [hpt]
           repeat' (first | (with_reducible first | refine XG_split (fun hq => ?_) (fun hq => ?_) | refine MX1.of 4000 (by simp) ?_ | refine MX2.of 4000 (by simp) ?_ | refine And.intro ?_ ?_) | ((with_reducible first | refine Or.inl (And.intro (And.intro mixedP ?_) ?_) | refine Or.inl (And.intro mixedP ?_)); kernel_rfl) | simp only [go_sem,Nat.reduceEqDiff,Nat.reduceAdd,Nat.reduceMul,Nat.reduceLeDiff,Int.reduceBEq,FinE,cloTch,Term.av,hv,ha,hb,hk,hb2,hk2,empty_str])
           all_goals first | omega | (unfold maxLen; omega) | (right; omega) | (left; simp; done) | (simp only [wk3,wkL2,wk2,wkL,wk1_d,wk1_own,wk1_nil,and_self]; done) | (intro i hi; simp only [upd]; (repeat' split); all_goals first | rfl | omega) | skip
           · exact fun j hj => (hsm j hj).symm
           · exact hno l
           · exact hbx l
         | false =>
           have hpt : putT l t = l ++ [t.var] := (if_pos hv1).trans (putL_not (by rw [← any_swap, ha]; decide))
           rw [hpt]
           repeat' (first | (with_reducible first | refine XG_split (fun hq => ?_) (fun hq => ?_) | refine MX1.of 4000 (by simp) ?_ | refine MX2.of 4000 (by simp) ?_ | refine And.intro ?_ ?_) | ((with_reducible first | refine Or.inl (And.intro (And.intro mixedP ?_) ?_) | refine Or.inl (And.intro mixedP ?_)); kernel_rfl) | simp only [go_sem,Nat.reduceEqDiff,Nat.reduceAdd,Nat.reduceMul,Nat.reduceLeDiff,Int.reduceBEq,FinE,cloTch,Term.av,hv,ha,hb,hk,hb2,hk2,empty_str])
           all_goals first | omega | (unfold maxLen; omega) | (right; omega) | (left; simp; done) | (simp only [wk3,wkL2,wk2,wkL,wk1_d,wk1_own,wk1_nil,and_self]; done) | (intro i hi; simp only [upd]; (repeat' split); all_goals first | rfl | omega) | skip
           · intro j hj
             unfold cloH
             by_cases e1 : j = i
             · subst e1
               rw [upd_same, upd_same, List.map_append]
               rfl
             · rw [upd_ne _ _ e1, upd_ne _ _ e1]
               by_cases e2 : j = i + 1
               · subst e2
                 rw [upd_same, upd_same, List.length_append]
                 rfl
               · rw [upd_ne _ _ e2, upd_ne _ _ e2, upd_ne _ _ (by omega)]
           · exact hno _
           · exact hbx _
 · cases hr
theorem of_rep2 {P : Program} {f : FuncId} {fn : Func} {code : Code} {g : List AV → Option AV} {pre : List AV → Prop} (hf : P.funcs[f]? = some fn) (hbody : fn.body = some code) (hn : (fn.name == "runtime.NumGoroutine") = false)
 (H : ∀ (args : List AV) (r : AV) (c : Cx) (h : AH) (n : Nat) (w : World) (vals : List Value), pre args → g args = some r → Wd c h n w → vals.length = args.length → (∀ (j : Nat) v x, vals[j]? = some v → args[j]? = some x → ARep c h w v x) → ∃ x, ARep c h w x r ∧ Calls P f vals.toArray w fun e w' => e = .returned x ∧ Go.RowKit.Below w.heap.size w w') : FsOk P f (.pureIf pre g) := by
 intro c h n w vals args K hw hl hr hS
 obtain ⟨hpre, hS⟩ := hS
 obtain ⟨q, hq, hK⟩ := onO_iff hS
 refine ⟨Entered.of hf hbody hn, ?_⟩
 simp only [Fs.pureIf] at hq hpre
 cases hg : g args with
 | none => simp [hg] at hq
 | some r =>
   simp only [hg, Option.map_some, Option.some.injEq] at hq
   subst hq
   obtain ⟨x, h2, h3⟩ := H args r c h n w vals hpre hg hw hl hr
   refine h3.mono fun e w' ⟨he, hb⟩ => ?_
   obtain ⟨g1, g2⟩ := wd_same hw hb
   exact ⟨x, r, c, h, n, he, g1, g2, ⟨fun b hbl _ => hb.block b hbl, fun i b q _ => q⟩, h2.to g2, Nat.le_refl n, hK⟩
abbrev clipS : Fs := .pureIf (g1p aStrs fun l => l.length ≤ 9223372036854775807) (g1 aStrs fun l => .d (.sl 1 (l.map strRow)))
theorem clip_calls (A : Option Addr) (n c : Nat) (w : World) (hn : n ≤ c) (hm : (n : Int) ≤ 9223372036854775807) : Calls Try.prog 57 #[.slice A n c] w fun e w' => e = .returned (.slice A n n) ∧ Go.RowKit.Below w.heap.size w w' := by
 go_enter Try.func57, Try.ntmps57
 go_wp2
 go_ret
 exact ⟨rfl, Go.RowKit.Below.refl _ _⟩
theorem clip_rep {c : Cx} {w : World} {A : Option Addr} {n cap z : Nat} {xs : List (List DV)} (hd : DRep c w (.slice A n cap) (.sl z xs)) : n ≤ cap ∧ DRep c w (.slice A n n) (.sl z xs) := by
 generalize hv : Value.slice A n cap = v at hd
 cases hd with
 | sl A' cap' _ _ f hc hz hA hN hcell hrep =>
   cases hv
   exact ⟨hc, .sl A xs.length z xs f (Nat.le_refl _) hz (fun a h => (hA a h).imp id (fun q => by omega)) (fun e => ⟨(hN e).1, by rw [(hN e).1]; rfl⟩) hcell hrep⟩
theorem clip_ok : FsOk Try.prog 57 clipS := by
 refine of_rep2 Try.func57 rfl (by kernel_rfl) ?_
 intro args r c h n w vals hp hg hw hl hr
 obtain ⟨x, l, rfl, hx, rfl⟩ := g1_eq hg
 have hp := hp l hx
 match vals, hl with
 | [v], _ =>
   have hv := hr 0 v _ rfl rfl
   unfold aStrs at hx
   cases hrow : rowsOf 1 x with
   | none => simp [hrow] at hx
   | some rows =>
     simp only [hrow] at hx
     obtain rfl := dRows_eq (fun c x => cStr_eq) hx
     obtain ⟨A, cap, rfl, hd⟩ := rowsOf_rep hv hrow
     exact ⟨.slice A (l.map strRow).length (l.map strRow).length, .d _ _ (clip_rep hd).2, clip_calls A _ cap w (clip_rep hd).1 (by rw [List.length_map]; omega)⟩
abbrev pvarsS : Fs := .pureIf (g1p aClause szC) (g1 aClause fun c => .d (.sl 1 ((varsL c).map strRow)))
set_option maxRecDepth 10000 in
set_option maxHeartbeats 4000000 in
theorem pvars_ok : FsOk Try.prog 26 pvarsS := by
 refine of_Y1 (E := EqT.no _) (F := ((Ft.no.put 24 pcheckS).put 55 cloS).put 57 clipS) Clause.av (fun _ _ => aClause_le) Try.func26 rfl (by kernel_rfl) [.tmp 2] rfl Try.ntmps26 (by decide) ((((FtOk.no _).put pcheck_ok).put clo_ok).put clip_ok) ?_
 intro c h n hp hok
 cases hck : checkB c with
 | false =>
   have hV : varsL c = [] := by unfold varsL; rw [hck]; rfl
   repeat' (first | (with_reducible first | refine XG_split (fun hq => ?_) (fun hq => ?_) | refine MX1.of 4000 (by simp) ?_ | refine MX2.of 4000 (by simp) ?_ | refine And.intro ?_ ?_) | ((with_reducible first | refine Or.inl (And.intro (And.intro mixedP ?_) ?_) | refine Or.inl (And.intro mixedP ?_)); kernel_rfl) | simp only [go_sem,Nat.reduceEqDiff,Nat.reduceAdd,Nat.reduceMul,Nat.reduceLeDiff,Int.reduceBEq,Clause.av,Clause.ds,hck,hV,List.map_nil])
   all_goals first | exact hp | skip
   all_goals first | omega | (unfold maxLen; omega) | (right; omega) | (left; simp; done) | (simp only [wk3,wkL2,wk2,wkL,wk1_d,wk1_own,wk1_nil,and_self]; done) | (intro i hi; simp only [upd]; (repeat' split); all_goals first | rfl | omega) | skip
 | true =>
   have hc := hck
   simp only [checkB, Bool.and_eq_true, decide_eq_true_eq] at hc
   obtain ⟨⟨⟨hc1, hc2⟩, hc3⟩, hc4⟩ := hc
   have hha : c.head.args.length ≤ 4 := by
    unfold checkLitB saidB at hc1
    simp only [Bool.and_eq_true, decide_eq_true_eq] at hc1
    exact hc1.2.1.2
   have hlit : ∀ l ∈ c.body, l.args.length ≤ 4 := fun l hl => by
    rw [List.all_eq_true] at hc4
    exact lit_args4 (hc4 l hl)
   have hwho : putT [] c.head.who = [] := by
    unfold ownT at hc2
    simp only [Bool.and_eq_true, beq_iff_eq] at hc2
    exact if_neg (by omega)
   have hV : varsL c = c.body.foldl litVs (c.head.args.foldl putT []) := by
    unfold varsL
    rw [hck, if_pos rfl, List.foldl_cons]
    unfold litVs
    rw [hwho]
   have hok1 : HOk (n + 1) (upd h n (.box c.ds)) := (hok.mono (Nat.le_succ n)).upd_box (Nat.lt_succ_self n) (by simp only [go_sem, Clause.ds])
   have hok3 : ∀ l : List ByteArray, HOk (n + 1 + 1 + 1) (upd (upd (upd h n (.box c.ds)) (n + 1 + 1) (.tok (l).length 1)) (n + 1) (.box [.own (n + 1 + 1) 1 ((l).map strRow)])) := fun l => ((hok1.mono (by omega)).upd_tok (by omega)).upd_box (by omega) (by simp only [go_sem]; omega)
   have hok4 : ∀ (l : List ByteArray) (L : Lit), HOk (n + 1 + 1 + 1 + 1) (upd (upd (upd (upd h n (.box c.ds)) (n + 1 + 1) (.tok (l).length 1)) (n + 1) (.box [.own (n + 1 + 1) 1 ((l).map strRow)])) (n + 1 + 1 + 1) (.box L.bx)) := fun l L => ((hok3 l).mono (Nat.le_succ _)).upd_box (by omega) (by simp only [go_sem, Lit.bx])
   repeat' (first | (with_reducible first | refine XG_split (fun hq => ?_) (fun hq => ?_) | refine MX1.of 4000 (by simp) ?_ | refine MX2.of 4000 (by simp) ?_ | refine And.intro ?_ ?_) | ((with_reducible first | refine Or.inl (And.intro (And.intro mixedP ?_) ?_) | refine Or.inl (And.intro mixedP ?_)); kernel_rfl) | simp only [go_sem,Nat.reduceEqDiff,Nat.reduceAdd,Nat.reduceMul,Nat.reduceLeDiff,Int.reduceBEq,Clause.av,Clause.ds,hck])
   all_goals first | exact hp | skip
   all_goals first | omega | (unfold maxLen; omega) | (right; omega) | (left; simp; done) | (simp only [wk3,wkL2,wk2,wkL,wk1_d,wk1_own,wk1_nil,and_self]; done) | (intro i hi; simp only [upd]; (repeat' split); all_goals first | rfl | omega) | skip
   refine AW.wk (Wk.nilBox (i := n + 1) 1 (upd_same _ _ _)) ?_
   refine AW.loopJ (E := EqT.no _) (S := fun x : Nat × List ByteArray => ⟨fr [(1, .p n 0), (3, .p (n + 1) 0), (4, .fn (.func 55) [] [.p (n + 1) 0]), (17, .d (.sl 3 (c.head.args.map Term.cells))), (18, vI c.head.args.length), (19, vI x.1)] (List.replicate 52 .any), upd (upd (upd h n (.box c.ds)) (n + 1 + 1) (.tok (x.2).length 1)) (n + 1) (.box [.own (n + 1 + 1) 1 ((x.2).map strRow)]), n, n + 1 + 1 + 1⟩)
    (I := fun x => x.1 ≤ c.head.args.length ∧ x.2.length ≤ x.1 ∧ (c.head.args.drop x.1).foldl putT x.2 = c.head.args.foldl putT []) (μ := fun x => c.head.args.length - x.1) (0, []) ⟨Nat.zero_le _, Nat.le_refl _, rfl⟩ ?_ 4000 (fun _ => by simp only [fr_len, List.length_replicate]; decide) ?_
   · exact Wk.of (by simp only [go_sem, Clause.ds, Lit.cells, List.map_cons, List.map_nil, List.length_map]) (by intro i hi; simp only [upd, Clause.ds, List.length_nil, List.map_nil]; (repeat' split); all_goals first | rfl | omega) (hok3 _) (by omega) (by omega) (by simp only [go_sem]; omega)
   · rintro ⟨k, acc⟩ ⟨hk, hac, hI⟩
     simp only at hk hac hI
     rcases Nat.lt_or_ge k c.head.args.length with hkl | hkl
     · rw [List.drop_eq_getElem_cons hkl, List.foldl_cons] at hI
       have hpl := putT_len acc c.head.args[k]
       repeat' (first | (with_reducible first | refine XG_split (fun hq => ?_) (fun hq => ?_) | refine MX1.of 4000 (by simp) ?_ | refine MX2.of 4000 (by simp) ?_ | refine And.intro ?_ ?_) | ((with_reducible first | refine Or.inl (And.intro (And.intro mixedP ?_) ?_) | refine Or.inl (And.intro mixedP ?_)); kernel_rfl) | simp only [go_sem,Nat.reduceEqDiff,Nat.reduceAdd,Nat.reduceMul,Nat.reduceLeDiff,Int.reduceBEq,Clause.ds,Lit.bx,Term.cells,cloH,Term.av,decide_eq_true hkl,List.getElem?_eq_getElem hkl,Lit.cells])
       all_goals first | omega | (unfold maxLen; omega) | (right; omega) | (left; simp; done) | (simp only [wk3,wkL2,wk2,wkL,wk1_d,wk1_own,wk1_nil,and_self]; done) | (intro i hi; simp only [upd]; (repeat' split); all_goals first | rfl | omega) | skip
       exact ⟨(k + 1, putT acc c.head.args[k]), ⟨hkl, by show (putT acc c.head.args[k]).length ≤ k + 1; omega, hI⟩, Wk.of (by simp only [go_sem]) (by intro i hi; simp only [upd, Clause.ds]; (repeat' split); all_goals first | rfl | omega) (hok3 _) (by omega) (by omega) (by simp only [go_sem]; omega), by show c.head.args.length - (k + 1) < c.head.args.length - k; omega⟩
     · obtain rfl : k = c.head.args.length := by omega
       rw [List.drop_length, List.foldl_nil] at hI
       rw [← hI] at hV
       repeat' (first | (with_reducible first | refine XG_split (fun hq => ?_) (fun hq => ?_) | refine MX1.of 4000 (by simp) ?_ | refine MX2.of 4000 (by simp) ?_ | refine And.intro ?_ ?_) | ((with_reducible first | refine Or.inl (And.intro (And.intro mixedP ?_) ?_) | refine Or.inl (And.intro mixedP ?_)); kernel_rfl) | simp only [go_sem,Nat.reduceEqDiff,Nat.reduceAdd,Nat.reduceMul,Nat.reduceLeDiff,Int.reduceBEq,Clause.ds,Nat.lt_irrefl,decide_false])
       all_goals first | omega | (unfold maxLen; omega) | (right; omega) | (left; simp; done) | (simp only [wk3,wkL2,wk2,wkL,wk1_d,wk1_own,wk1_nil,and_self]; done) | (intro i hi; simp only [upd]; (repeat' split); all_goals first | rfl | omega) | skip
       refine AW.loopJ (E := EqT.no _) (S := fun x : Nat × List ByteArray => ⟨fr [(1, .p n 0), (3, .p (n + 1) 0), (4, .fn (.func 55) [] [.p (n + 1) 0]), (28, .d (.sl 6 (c.body.map Lit.cells))), (29, vI c.body.length), (30, vI x.1)] (List.replicate 52 .any), upd (upd (upd h n (.box c.ds)) (n + 1 + 1) (.tok (x.2).length 1)) (n + 1) (.box [.own (n + 1 + 1) 1 ((x.2).map strRow)]), n, n + 1 + 1 + 1⟩)
        (I := fun x => x.1 ≤ c.body.length ∧ x.2.length ≤ 4 + 5 * x.1 ∧ (c.body.drop x.1).foldl litVs x.2 = varsL c) (μ := fun x => c.body.length - x.1) (0, acc) ⟨Nat.zero_le _, by show acc.length ≤ 4 + 5 * 0; omega, hV.symm⟩ ?_ 4000 (fun _ => by simp only [fr_len, List.length_replicate]; decide) ?_
       · exact Wk.of (by simp only [go_sem, Clause.ds, List.length_map]) (by intro i hi; simp only [upd, Clause.ds]; (repeat' split); all_goals first | rfl | omega) (hok3 _) (by omega) (by omega) (by simp only [go_sem]; omega)
       · rintro ⟨j, ac2⟩ ⟨hj, hjl, hJ⟩
         simp only at hj hjl hJ
         rcases Nat.lt_or_ge j c.body.length with hjl2 | hjl2
         · rw [List.drop_eq_getElem_cons hjl2, List.foldl_cons] at hJ
           have hmem := hlit _ (List.getElem_mem hjl2)
           have hpw := putT_len ac2 c.body[j].who
           repeat' (first | (with_reducible first | refine XG_split (fun hq => ?_) (fun hq => ?_) | refine MX1.of 4000 (by simp) ?_ | refine MX2.of 4000 (by simp) ?_ | refine And.intro ?_ ?_) | ((with_reducible first | refine Or.inl (And.intro (And.intro mixedP ?_) ?_) | refine Or.inl (And.intro mixedP ?_)); kernel_rfl) | simp only [go_sem,Nat.reduceEqDiff,Nat.reduceAdd,Nat.reduceMul,Nat.reduceLeDiff,Int.reduceBEq,Clause.ds,Lit.bx,Term.cells,cloH,Term.av,decide_eq_true hjl2,List.getElem?_eq_getElem hjl2,Lit.cells])
           all_goals first | omega | (unfold maxLen; omega) | (right; omega) | (left; simp; done) | (simp only [wk3,wkL2,wk2,wkL,wk1_d,wk1_own,wk1_nil,and_self]; done) | (intro i hi; simp only [upd]; (repeat' split); all_goals first | rfl | omega) | skip
           refine AW.loopJ (E := EqT.no _) (S := fun x : Nat × List ByteArray => ⟨fr [(1, .p n 0), (3, .p (n + 1) 0), (4, .fn (.func 55) [] [.p (n + 1) 0]), (28, .d (.sl 6 (c.body.map Lit.cells))), (29, vI c.body.length), (30, vI j), (39, .d (.sl 3 (c.body[j].args.map Term.cells))), (40, vI c.body[j].args.length), (41, vI x.1)] (List.replicate 52 .any), upd (upd (upd (upd h n (.box c.ds)) (n + 1 + 1) (.tok (x.2).length 1)) (n + 1) (.box [.own (n + 1 + 1) 1 ((x.2).map strRow)])) (n + 1 + 1 + 1) (.box c.body[j].bx), n, n + 1 + 1 + 1 + 1⟩)
            (I := fun x => x.1 ≤ c.body[j].args.length ∧ x.2.length ≤ 5 + 5 * j + x.1 ∧ (c.body[j].args.drop x.1).foldl putT x.2 = litVs ac2 c.body[j]) (μ := fun x => c.body[j].args.length - x.1) (0, putT ac2 c.body[j].who) ⟨Nat.zero_le _, by show (putT ac2 c.body[j].who).length ≤ 5 + 5 * j + 0; omega, rfl⟩ ?_ 4000 (fun _ => by simp only [fr_len, List.length_replicate]; decide) ?_
           · exact Wk.of (by simp only [go_sem, Lit.cells, List.length_map]) (by intro i hi; simp only [upd, Clause.ds, Lit.bx, Lit.cells, List.map_cons, List.map_nil]; (repeat' split); all_goals first | rfl | omega) (hok4 _ _) (by omega) (by omega) (by simp only [go_sem]; omega)
           · rintro ⟨k, ac3⟩ ⟨hk, hkc, hK⟩
             simp only at hk hkc hK
             rcases Nat.lt_or_ge k c.body[j].args.length with hkl | hkl
             · rw [List.drop_eq_getElem_cons hkl, List.foldl_cons] at hK
               have hpl := putT_len ac3 c.body[j].args[k]
               repeat' (first | (with_reducible first | refine XG_split (fun hq => ?_) (fun hq => ?_) | refine MX1.of 4000 (by simp) ?_ | refine MX2.of 4000 (by simp) ?_ | refine And.intro ?_ ?_) | ((with_reducible first | refine Or.inl (And.intro (And.intro mixedP ?_) ?_) | refine Or.inl (And.intro mixedP ?_)); kernel_rfl) | simp only [go_sem,Nat.reduceEqDiff,Nat.reduceAdd,Nat.reduceMul,Nat.reduceLeDiff,Int.reduceBEq,Clause.ds,Lit.bx,Term.cells,cloH,Term.av,decide_eq_true hkl,List.getElem?_eq_getElem hkl,Lit.cells])
               all_goals first | omega | (unfold maxLen; omega) | (right; omega) | (left; simp; done) | (simp only [wk3,wkL2,wk2,wkL,wk1_d,wk1_own,wk1_nil,and_self]; done) | (intro i hi; simp only [upd]; (repeat' split); all_goals first | rfl | omega) | skip
               exact ⟨(k + 1, putT ac3 c.body[j].args[k]), ⟨hkl, by show (putT ac3 c.body[j].args[k]).length ≤ 5 + 5 * j + (k + 1); omega, hK⟩, Wk.of (by simp only [go_sem]) (by intro i hi; simp only [upd, Clause.ds, Lit.bx]; (repeat' split); all_goals first | rfl | omega) (hok4 _ _) (by omega) (by omega) (by simp only [go_sem]; omega), by show c.body[j].args.length - (k + 1) < c.body[j].args.length - k; omega⟩
             · obtain rfl : k = c.body[j].args.length := by omega
               rw [List.drop_length, List.foldl_nil] at hK
               rw [← hK] at hJ
               repeat' (first | (with_reducible first | refine XG_split (fun hq => ?_) (fun hq => ?_) | refine MX1.of 4000 (by simp) ?_ | refine MX2.of 4000 (by simp) ?_ | refine And.intro ?_ ?_) | ((with_reducible first | refine Or.inl (And.intro (And.intro mixedP ?_) ?_) | refine Or.inl (And.intro mixedP ?_)); kernel_rfl) | simp only [go_sem,Nat.reduceEqDiff,Nat.reduceAdd,Nat.reduceMul,Nat.reduceLeDiff,Int.reduceBEq,Clause.ds,Nat.lt_irrefl,decide_false])
               all_goals first | omega | (unfold maxLen; omega) | (right; omega) | (left; simp; done) | (simp only [wk3,wkL2,wk2,wkL,wk1_d,wk1_own,wk1_nil,and_self]; done) | (intro i hi; simp only [upd]; (repeat' split); all_goals first | rfl | omega) | skip
               exact ⟨(j + 1, ac3), ⟨hjl2, by show ac3.length ≤ 4 + 5 * (j + 1); omega, hJ⟩, Wk.of (by simp only [go_sem]) (by intro i hi; simp only [upd, Clause.ds, Lit.bx]; (repeat' split); all_goals first | rfl | omega) (hok3 _) (by omega) (by omega) (by simp only [go_sem]; omega), by show c.body.length - (j + 1) < c.body.length - j; omega⟩
         · obtain rfl : j = c.body.length := by omega
           rw [List.drop_length, List.foldl_nil] at hJ
           repeat' (first | (with_reducible first | refine XG_split (fun hq => ?_) (fun hq => ?_) | refine MX1.of 4000 (by simp) ?_ | refine MX2.of 4000 (by simp) ?_ | refine And.intro ?_ ?_) | ((with_reducible first | refine Or.inl (And.intro (And.intro mixedP ?_) ?_) | refine Or.inl (And.intro mixedP ?_)); kernel_rfl) | simp only [go_sem,Nat.reduceEqDiff,Nat.reduceAdd,Nat.reduceMul,Nat.reduceLeDiff,Int.reduceBEq,Clause.ds,Nat.lt_irrefl,decide_false,hJ])
           all_goals first | omega | (unfold maxLen; omega) | (right; omega) | (left; simp; done) | (simp only [wk3,wkL2,wk2,wkL,wk1_d,wk1_own,wk1_nil,and_self]; done) | (intro i hi; simp only [upd]; (repeat' split); all_goals first | rfl | omega) | skip
           rw [← hJ]
           omega
def factB (c : Clause) : Bool := checkB c && (c.body.length == 0 && (varsL c).length == 0)
abbrev pfactS : Fs := .pureIf (g1p aClause szC) (g1 aClause fun c => vB (factB c))
set_option maxRecDepth 10000 in
set_option maxHeartbeats 4000000 in
theorem pfact_ok : FsOk Try.prog 28 pfactS := by
 refine of_Y1 (E := EqT.no _) (F := (Ft.no.put 24 pcheckS).put 26 pvarsS) Clause.av (fun _ _ => aClause_le) Try.func28 rfl (by kernel_rfl) [.tmp 2] rfl Try.ntmps28 (by decide) (((FtOk.no _).put pcheck_ok).put pvars_ok) ?_
 intro c h n hp hok
 cases hck : checkB c with
 | false =>
   have hF : factB c = false := by unfold factB; rw [hck]; rfl
   repeat' (first | (with_reducible first | refine XG_split (fun hq => ?_) (fun hq => ?_) | refine MX1.of 4000 (by simp) ?_ | refine MX2.of 4000 (by simp) ?_ | refine And.intro ?_ ?_) | ((with_reducible first | refine Or.inl (And.intro (And.intro mixedP ?_) ?_) | refine Or.inl (And.intro mixedP ?_)); kernel_rfl) | simp only [go_sem,Nat.reduceEqDiff,Nat.reduceAdd,Nat.reduceMul,Nat.reduceLeDiff,Int.reduceBEq,Clause.av,Clause.ds,hck,hF,List.length_map])
   all_goals first | exact hp | skip
   all_goals first | omega | (unfold maxLen; omega) | (right; omega) | (left; simp; done) | (simp only [wk3,wkL2,wk2,wkL,wk1_d,wk1_own,wk1_nil,and_self]; done) | (intro i hi; simp only [upd]; (repeat' split); all_goals first | rfl | omega) | skip
 | true =>
   cases hb : c.body.length == 0 with
   | false =>
     have hF : factB c = false := by unfold factB; rw [hck, hb]; rfl
     repeat' (first | (with_reducible first | refine XG_split (fun hq => ?_) (fun hq => ?_) | refine MX1.of 4000 (by simp) ?_ | refine MX2.of 4000 (by simp) ?_ | refine And.intro ?_ ?_) | ((with_reducible first | refine Or.inl (And.intro (And.intro mixedP ?_) ?_) | refine Or.inl (And.intro mixedP ?_)); kernel_rfl) | simp only [go_sem,Nat.reduceEqDiff,Nat.reduceAdd,Nat.reduceMul,Nat.reduceLeDiff,Int.reduceBEq,Clause.av,Clause.ds,hck,hb,hF,List.length_map])
     all_goals first | exact hp | skip
     all_goals first | omega | (unfold maxLen; omega) | (right; omega) | (left; simp; done) | (simp only [wk3,wkL2,wk2,wkL,wk1_d,wk1_own,wk1_nil,and_self]; done) | (intro i hi; simp only [upd]; (repeat' split); all_goals first | rfl | omega) | skip
   | true =>
     have hF : factB c = ((varsL c).length == 0) := by unfold factB; rw [hck, hb]; rfl
     repeat' (first | (with_reducible first | refine XG_split (fun hq => ?_) (fun hq => ?_) | refine MX1.of 4000 (by simp) ?_ | refine MX2.of 4000 (by simp) ?_ | refine And.intro ?_ ?_) | ((with_reducible first | refine Or.inl (And.intro (And.intro mixedP ?_) ?_) | refine Or.inl (And.intro mixedP ?_)); kernel_rfl) | simp only [go_sem,Nat.reduceEqDiff,Nat.reduceAdd,Nat.reduceMul,Nat.reduceLeDiff,Int.reduceBEq,Clause.av,Clause.ds,hck,hb,hF,List.length_map])
     all_goals first | exact hp | skip
     all_goals first | omega | (unfold maxLen; omega) | (right; omega) | (left; simp; done) | (simp only [wk3,wkL2,wk2,wkL,wk1_d,wk1_own,wk1_nil,and_self]; done) | (intro i hi; simp only [upd]; (repeat' split); all_goals first | rfl | omega) | skip
end Go.Proofs.Ytdhocmakbapfpaa.M
end
section
namespace Go.Proofs.Ytdhocmakbapfpaa.M
open Go.R
def g0 (r : AV) : List AV → Option AV
 | [] => some r
 | _ => none
section
variable {P : Program} {E : EqT P} {F : Ft}
theorem of_Y0 {r : AV} {f : FuncId} {fn : Func} {code : Code} (hf : P.funcs[f]? = some fn) (hbody : fn.body = some code) (hn : (fn.name == "runtime.NumGoroutine") = false)
 (rs : List ResultVar) {nt : Nat} (hrs : fn.results = rs.toArray) (hnt : fn.ntmps = nt) (hl : nt ≤ 900000) (hF : FtOk P F)
 (H : ∀ h n, HOk n h → X E F [] (FinP P rs n h r) 4000 (.code code) [] ⟨List.replicate nt .any, h, n, n⟩) : FsOk P f (.pure (g0 r)) := by
 refine FsOk.of_XP (E := E) _ hf hbody hn hrs hnt hF (fun _ _ _ => rfl) ?_
 intro args h n r' hp hS hok
 cases args with
 | nil =>
   cases hS
   exact ⟨[], trivial, ⟨hl, by simp⟩, H h n hok⟩
 | cons a l => cases hS
end
abbrev fixedS : Fs := .pure (g0 (vB true))
theorem tup_of {α : Type} {x : α × Int × Int} {p q : Int} (h : x.2 = (p, q)) : x = (x.1, p, q) := by
 obtain ⟨a, b, c⟩ := x
 cases h
 rfl
theorem fx1 : ∃ c, clauseA (⟨#[111, 107, 40, 88, 41, 58, 45, 98, 111, 98, 32, 115, 97, 121, 115, 32, 102, 114, 105, 101, 110, 100, 40, 88, 41, 44, 110, 111, 116, 32, 98, 97, 100, 40, 88, 41, 44, 88, 33, 61, 109, 101, 46]⟩ : ByteArray) = (c, 0, 0) ∧ printB c = ((⟨#[111, 107, 40, 88, 41, 32, 58, 45, 32, 98, 111, 98, 32, 115, 97, 121, 115, 32, 102, 114, 105, 101, 110, 100, 40, 88, 41, 44, 32, 110, 111, 116, 32, 98, 97, 100, 40, 88, 41, 44, 32, 88, 32, 33, 61, 32, 109, 101, 46]⟩ : ByteArray), 0) ∧ varsL c = [(⟨#[88]⟩ : ByteArray)] ∧ checkB c = true ∧ factB c = false ∧ clauseI c ∧ szC c := by
 refine ⟨_, tup_of (by decide +kernel), by decide +kernel, by decide +kernel, by decide +kernel, by decide +kernel, ?_, ?_⟩
 · unfold clauseI litI tI i64
   decide +kernel
 · unfold szC szL szT szS
   decide +kernel
theorem fx2 : ∃ c, clauseA (⟨#[112, 32, 58, 45, 32, 88, 46]⟩ : ByteArray) = (c, 6, 6) := ⟨_, tup_of (by decide +kernel)⟩
theorem fx3 : ∃ c, clauseA (⟨#[112, 40, 97, 44, 32, 98, 44, 32, 99, 44, 32, 100, 44, 32, 101, 41, 46]⟩ : ByteArray) = (c, 12, 2) := ⟨_, tup_of (by decide +kernel)⟩
theorem fx4 : ∃ l, litA (⟨#[98, 111, 98, 32, 115, 97, 121, 115, 32, 112, 40, 88, 44, 32, 49, 41]⟩ : ByteArray) = (l, 0, 0) ∧ printLitB l = ((⟨#[98, 111, 98, 32, 115, 97, 121, 115, 32, 112, 40, 88, 44, 32, 49, 41]⟩ : ByteArray), 0) ∧ checkLitB l = true ∧ litI l ∧ szL l := by
 refine ⟨_, tup_of (by decide +kernel), by decide +kernel, by decide +kernel, ?_, ?_⟩
 · unfold litI tI i64
   decide +kernel
 · unfold szL szT szS
   decide +kernel
theorem fx5 : ∃ c, clauseA (⟨#[112, 40, 97, 41, 46]⟩ : ByteArray) = (c, 0, 0) ∧ factB c = true ∧ szC c := by
 refine ⟨_, tup_of (by decide +kernel), by decide +kernel, ?_⟩
 unfold szC szL szT szS
 decide +kernel
set_option maxRecDepth 20000 in
set_option maxHeartbeats 8000000 in
theorem fixed_ok : FsOk Try.prog 13 fixedS := by
 refine of_Y0 (E := EqT.no _) (F := (((((((Ft.no.put 11 pparseS).put 18 pprintS).put 15 pparseLitS).put 21 pprintLitS).put 26 pvarsS).put 24 pcheckS).put 25 pcheckLitS).put 28 pfactS) Try.func13 rfl (by kernel_rfl) [.tmp 0] rfl Try.ntmps13 (by decide) (((((((((FtOk.no _).put pparse_ok).put pprint_ok).put pparseLit_ok).put pprintLit_ok).put pvars_ok).put pcheck_ok).put pcheckLit_ok).put pfact_ok) ?_
 intro h n hok
 obtain ⟨c1, h1, p1, v1, k1, f1, i1, z1⟩ := fx1
 obtain ⟨c2, h2⟩ := fx2
 obtain ⟨c3, h3⟩ := fx3
 obtain ⟨l4, h4, p4, k4, i4, z4⟩ := fx4
 obtain ⟨c5, h5, f5, z5⟩ := fx5
 repeat' (first | (with_reducible first | refine XG_split (fun hq => ?_) (fun hq => ?_) | refine MX1.of 4000 (by simp) ?_ | refine MX2.of 4000 (by simp) ?_ | refine And.intro ?_ ?_) | ((with_reducible first | refine Or.inl (And.intro (And.intro mixedP ?_) ?_) | refine Or.inl (And.intro mixedP ?_)); kernel_rfl) | simp only [go_sem,Nat.reduceEqDiff,Nat.reduceAdd,Nat.reduceMul,Nat.reduceLeDiff,Int.reduceBEq,Clause.av,Lit.av,h1,p1,v1,k1,f1,h2,h3,h4,p4,k4,h5,f5,strRow,List.map_cons,List.map_nil,List.length_cons,List.length_nil,beq_self_eq_true,List.append_eq,List.cons_append,List.nil_append])
 all_goals first | exact ⟨i1, z1⟩ | exact z1 | exact ⟨i4, z4⟩ | exact z4 | exact z5 | (show (_ : Int) ≤ _; decide) | skip
 all_goals first | omega | (unfold maxLen; omega) | (right; omega) | (left; simp; done) | (simp only [wk3,wkL2,wk2,wkL,wk1_d,wk1_own,wk1_nil,and_self]; done) | (intro i hi; simp only [upd]; (repeat' split); all_goals first | rfl | omega) | skip
end Go.Proofs.Ytdhocmakbapfpaa.M
end
section

end
section
namespace Go.Proofs.Ytdhocmakbapfpaa.M
open Go.R
theorem clauseA_small (s : ByteArray) : smallC (clauseA s).1 := by
 unfold clauseA
 cases h : parseP s with
 | error q =>
   obtain ⟨p, x⟩ := q
   exact ⟨Nat.zero_le _, Nat.zero_le _, fun l hl => absurd hl List.not_mem_nil⟩
 | ok c =>
   obtain ⟨h1, h2, h3⟩ := parse_small h
   have h1 : c.body.length ≤ 6 := h1
   have h2 : c.head.args.length ≤ 4 := h2
   exact ⟨by show c.body.length ≤ _; omega, by show c.head.args.length ≤ _; omega, fun l hl => by have := h3 l hl; omega⟩
theorem litA_small (s : ByteArray) : (litA s).1.args.length ≤ 4611686018427387904 := by
 unfold litA
 cases h : parseLitP s with
 | error q =>
   obtain ⟨p, x⟩ := q
   exact Nat.zero_le _
 | ok r =>
   have h1 := parseLit_small h
   show r.2.2.length ≤ _
   omega
theorem eqB_self {α : Type} (a : α) : eqB a a = true := eqB_true rfl
@[go_sem] theorem g0_nil (r : AV) : g0 r [] = some r := rfl
end Go.Proofs.Ytdhocmakbapfpaa.M
end
section
namespace Go.Proofs.Ytdhocmakbapfpaa.M
open Go.R
def allC (c : Clause) : Prop := copyP c ∧ clauseI c ∧ szC c
def allL (l : Lit) : Prop := l.args.length ≤ 1099511627776 ∧ litI l ∧ szL l
theorem printB_eq (c : Clause) : ∃ t e, printB c = (t, e) ∧ checkB c = (e == 0) := by
 unfold printB
 cases checkB c with
 | true => exact ⟨_, _, rfl, rfl⟩
 | false => exact ⟨_, _, rfl, rfl⟩
theorem printLitB_eq (l : Lit) : ∃ t e, printLitB l = (t, e) ∧ checkLitB l = (e == 0) := by
 unfold printLitB
 cases checkLitB l with
 | true => exact ⟨_, _, rfl, rfl⟩
 | false => exact ⟨_, _, rfl, rfl⟩
theorem foldT_len : ∀ (ts : List Term) (acc : List ByteArray), (ts.foldl putT acc).length ≤ acc.length + ts.length
 | [], acc => Nat.le_refl _
 | t :: ts, acc => by
   have h1 := putT_len acc t
   have h2 := foldT_len ts (putT acc t)
   simp only [List.foldl_cons, List.length_cons]
   omega
theorem foldL_len : ∀ (ls : List Lit) (acc : List ByteArray), (∀ l ∈ ls, l.args.length ≤ 4) → (ls.foldl litVs acc).length ≤ acc.length + 5 * ls.length
 | [], acc, h => Nat.le_refl _
 | l :: ls, acc, h => by
   have h0 := h l (List.mem_cons_self ..)
   have h1 := putT_len acc l.who
   have h3 := foldT_len l.args (putT acc l.who)
   have h2 := foldL_len ls (litVs acc l) (fun x hx => h x (List.mem_cons_of_mem _ hx))
   unfold litVs at h2 ⊢
   simp only [List.foldl_cons, List.length_cons]
   omega
theorem vars_len (c : Clause) : (varsL c).length ≤ 35 := by
 unfold varsL
 split
 · rename_i hck
   simp only [checkB, checkLitB, saidB, Bool.and_eq_true, decide_eq_true_eq, List.all_eq_true] at hck
   obtain ⟨⟨⟨h1, _⟩, h6⟩, hall⟩ := hck
   have := foldL_len (c.head :: c.body) [] (fun l hl => by
    rcases List.mem_cons.1 hl with rfl | hl
    · exact h1.2.1.2
    · exact lit_args4 (hall l hl))
   simp only [List.length_cons, List.length_nil] at this
   omega
 · exact Nat.zero_le _
theorem putT_ge (acc : List ByteArray) (t : Term) : acc.length ≤ (putT acc t).length := by
 unfold putT putL
 split
 · split
   · exact Nat.le_refl _
   · simp
 · exact Nat.le_refl _
theorem putT_pos (acc : List ByteArray) (t : Term) (h : 0 < t.var.size) : 0 < (putT acc t).length := by
 unfold putT putL
 rw [if_pos h]
 split
 · rename_i hx
   cases acc with
   | nil => simp at hx
   | cons x r => simp
 · simp
theorem foldT_ge : ∀ (ts : List Term) (acc : List ByteArray), acc.length ≤ (ts.foldl putT acc).length
 | [], acc => Nat.le_refl _
 | t :: ts, acc => Nat.le_trans (putT_ge acc t) (foldT_ge ts _)
theorem foldT_zero : ∀ (ts : List Term), ((ts.foldl putT []).length == 0) = !ts.any (fun t => decide (0 < t.var.size))
 | [] => rfl
 | t :: ts => by
   simp only [List.foldl_cons, List.any_cons]
   by_cases h : 0 < t.var.size
   · have h1 := putT_pos [] t h
     have h2 := foldT_ge ts (putT [] t)
     rw [decide_eq_true h, Bool.true_or]
     exact beq_false_of_ne (by omega)
   · rw [decide_eq_false h, Bool.false_or, show putT [] t = [] by unfold putT; rw [if_neg h]]
     exact foldT_zero ts
theorem bare_check {c : Clause} (h : checkB c = true) : checkB ⟨c.head, []⟩ = true := by
 simp only [checkB, Bool.and_eq_true] at h ⊢
 exact ⟨⟨h.1.1, rfl⟩, rfl⟩
theorem bare_fact {c : Clause} (h : checkB c = true) : factB ⟨c.head, []⟩ = !c.head.args.any (fun t => decide (0 < t.var.size)) := by
 unfold factB
 rw [bare_check h]
 have hw : putT [] c.head.who = [] := by
  simp only [checkB, Bool.and_eq_true, ownT, beq_iff_eq] at h
  unfold putT
  exact if_neg (by have := h.1.1.2.1.1; omega)
 have hv : varsL ⟨c.head, []⟩ = c.head.args.foldl putT [] := by
  unfold varsL
  rw [bare_check h, if_pos rfl]
  simp only [List.foldl_cons, List.foldl_nil]
  unfold litVs
  rw [hw]
 rw [hv, foldT_zero]
 rfl
theorem fact_not {c : Clause} (h : checkB c = false) : factB c = false ∧ varsL c = [] := by
 unfold factB varsL
 rw [h]
 exact ⟨rfl, rfl⟩
theorem fact_body {c : Clause} (h : (c.body.length == 0) = false) : factB c = false := by
 unfold factB
 rw [h, Bool.false_and, Bool.and_false]
def Clause.bare (c : Clause) : List AV := [.d (.v (.int .u8 c.head.kind)), .d (.v (.string c.head.who.var)), .d (.v (.string c.head.who.val.sym)), .d (.v (.int .i64 c.head.who.val.num)), .d (.v (.string c.head.pred)), .d (.sl 3 (c.head.args.map Term.cells)), .d (.v (.slice none 0 0))]
abbrev law3S : Fs := .pureIf (g2p aClause aLit fun c l => allC c ∧ allL l) (g2 aClause aLit fun _ _ => vB true)
abbrev law4S : Fs := .pureIf (g1p aClause allC) (g1 aClause fun _ => vB true)
set_option maxRecDepth 20000 in
set_option maxHeartbeats 8000000 in
theorem law3_ok : FsOk Try.prog 5 law3S := by
 refine of_Y2 (E := EqT.no _) (F := ((((((((Ft.no.put 18 pprintS).put 19 copyS).put 20 printS).put 21 pprintLitS).put 22 copyLitS).put 23 printLitS).put 13 fixedS).put 24 pcheckS).put 25 pcheckLitS) Clause.av Lit.av (fun _ _ => aClause_le) (fun _ _ => aLit_le) Try.func5 rfl (by kernel_rfl) [.tmp 4] rfl Try.ntmps5 (by decide) ((((((((((FtOk.no _).put pprint_ok).put copy_ok).put refPrint_ok).put pprintLit_ok).put copyLit_ok).put refPrintLit_ok).put fixed_ok).put pcheck_ok).put pcheckLit_ok) ?_
 intro c l h n hp hok
 obtain ⟨⟨hcp, hci, hcz⟩, ⟨hla, hli, hlz⟩⟩ := hp
 obtain ⟨t, e, hP, hck⟩ := printB_eq c
 obtain ⟨u, d, hL, hcl⟩ := printLitB_eq l
 repeat' (first | (with_reducible first | refine XG_split (fun hq => ?_) (fun hq => ?_) | refine MX1.of 4000 (by simp) ?_ | refine MX2.of 4000 (by simp) ?_ | refine And.intro ?_ ?_) | ((with_reducible first | refine Or.inl (And.intro (And.intro mixedP ?_) ?_) | refine Or.inl (And.intro mixedP ?_)); kernel_rfl) | simp only [go_sem,Nat.reduceEqDiff,Nat.reduceAdd,Nat.reduceMul,Nat.reduceLeDiff,Int.reduceBEq,Clause.av,Clause.ds,Lit.av,hP,hL,hck,hcl,beq_self_eq_true])
 all_goals first | exact hcp | exact hci | exact hcz | exact ⟨hci, hcz⟩ | exact hla | exact hli | exact hlz | exact ⟨hli, hlz⟩ | (with_reducible rfl) | skip
 all_goals first | omega | (unfold maxLen; omega) | (right; omega) | (left; simp; done) | (simp only [wk3,wkL2,wk2,wkL,wk1_d,wk1_own,wk1_nil,and_self]; done) | (intro i hi; simp only [upd]; (repeat' split); all_goals first | rfl | omega) | skip
 all_goals kernel_rfl
set_option maxRecDepth 20000 in
set_option maxHeartbeats 8000000 in
theorem law4_ok : FsOk Try.prog 6 law4S := by
 refine of_Y1 (E := EqT.no _) (F := (((((Ft.no.put 19 copyS).put 26 pvarsS).put 27 refVarsS).put 13 fixedS).put 28 pfactS).put 29 checkS) Clause.av (fun _ _ => aClause_le) Try.func6 rfl (by kernel_rfl) [.tmp 2] rfl Try.ntmps6 (by decide) (((((((FtOk.no _).put copy_ok).put pvars_ok).put refVars_ok).put fixed_ok).put pfact_ok).put check_ok) ?_
 intro c h n hp hok
 obtain ⟨hcp, hci, hcz⟩ := hp
 have hF : factB c = (checkB c && (c.body.length == 0 && (varsL c).length == 0)) := rfl
 have hVl := vars_len c
 obtain ⟨V, hV⟩ : ∃ V, varsL c = V := ⟨_, rfl⟩
 rw [hV] at hF hVl
 have hok1 : HOk (n + 1) (upd h n (.box c.ds)) := (hok.mono (Nat.le_succ n)).upd_box (Nat.lt_succ_self n) (by simp only [go_sem, Clause.ds])
 repeat' (first | (with_reducible first | refine XG_split (fun hq => ?_) (fun hq => ?_) | refine MX1.of 4000 (by simp) ?_ | refine MX2.of 4000 (by simp) ?_ | refine And.intro ?_ ?_) | ((with_reducible first | refine Or.inl (And.intro (And.intro mixedP ?_) ?_) | refine Or.inl (And.intro mixedP ?_)); kernel_rfl) | simp only [go_sem,Nat.reduceEqDiff,Nat.reduceAdd,Nat.reduceMul,Nat.reduceLeDiff,Int.reduceBEq,Clause.av,Clause.ds,hV,List.length_map,bne_self_eq_false])
 all_goals first | exact hcp | exact hcz | skip
 all_goals first | omega | (unfold maxLen; omega) | (right; omega) | (left; simp; done) | (simp only [wk3,wkL2,wk2,wkL,wk1_d,wk1_own,wk1_nil,and_self]; done) | (intro i hi; simp only [upd]; (repeat' split); all_goals first | rfl | omega) | skip
 refine AW.loopJ (E := EqT.no _) (S := fun k : Nat => ⟨fr [(1, .p n 0), (3, .d (.sl 1 (V.map strRow))), (4, .d (.sl 1 (V.map strRow))), (5, vI k)] (List.replicate 52 .any), upd h n (.box c.ds), n, n + 1⟩) (I := fun k => k ≤ V.length) (μ := fun k => V.length - k) 0 (Nat.zero_le _) ?_ 4000 (fun _ => by simp only [fr_len, List.length_replicate]; decide) ?_
 · exact Wk.same (by simp only [go_sem, Clause.ds]) hok1 (by omega) (by simp only [go_sem]; omega)
 · intro k hk
   rcases Nat.lt_or_ge k V.length with hkl | hkl
   · repeat' (first | (with_reducible first | refine XG_split (fun hq => ?_) (fun hq => ?_) | refine MX1.of 4000 (by simp) ?_ | refine MX2.of 4000 (by simp) ?_ | refine And.intro ?_ ?_) | ((with_reducible first | refine Or.inl (And.intro (And.intro mixedP ?_) ?_) | refine Or.inl (And.intro mixedP ?_)); kernel_rfl) | simp only [go_sem,Nat.reduceEqDiff,Nat.reduceAdd,Nat.reduceMul,Nat.reduceLeDiff,Int.reduceBEq,Clause.ds,decide_eq_true hkl,List.getElem?_eq_getElem hkl,strRow,bne_self_eq_false,beq_self_eq_true])
     all_goals first | omega | (unfold maxLen; omega) | (right; omega) | (left; simp; done) | (simp only [wk3,wkL2,wk2,wkL,wk1_d,wk1_own,wk1_nil,and_self]; done) | (intro i hi; simp only [upd]; (repeat' split); all_goals first | rfl | omega) | skip
     exact ⟨k + 1, hkl, Wk.same (by simp only [go_sem]) hok1 (by omega) (by simp only [go_sem]; omega), by omega⟩
   · obtain rfl : k = V.length := by omega
     cases hck : checkB c with
     | false =>
       rw [hck, Bool.false_and] at hF
       repeat' (first | (with_reducible refine Or.inr (AW.treeX (E := EqT.no _) [] [0,3] (.one 1 (.one 2 (.one 4 (.one 5 (.one 6 (.one 7 (.one 8 (.one 9 (.one 10 (.one 11 (.one 12 (.one 13 (.one 14 (.one 15 (.one 16 (.one 17 .fin)))))))))))))))) mixedP ?_ ?_ ?_ ?_); decide +kernel; (simp only [List.length_cons,List.length_nil]; decide); (intro j hj; exact absurd hj List.not_mem_nil)) | (with_reducible refine (AW.treeX (E := EqT.no _) [] [0,3] (.one 1 (.one 2 (.one 4 (.one 5 (.one 6 (.one 7 (.one 8 (.one 9 (.one 10 (.one 11 (.one 12 (.one 13 (.one 14 (.one 15 (.one 16 (.one 17 .fin)))))))))))))))) mixedP ?_ ?_ ?_ ?_); decide +kernel; (simp only [List.length_cons,List.length_nil]; decide); (intro j hj; exact absurd hj List.not_mem_nil)) | (with_reducible refine MTq.of 4000 (by simp) ?_ ?_) | (with_reducible refine MTq.nil ?_) | (with_reducible refine MT.one 4000 (by simp) ?_) | (with_reducible refine MT.two 4000 (by simp) ?_ ?_) | (with_reducible refine MT.fin ?_) | (with_reducible first | refine XG_split (fun hq => ?_) (fun hq => ?_) | refine MX1.of 4000 (by simp) ?_ | refine MX2.of 4000 (by simp) ?_ | refine And.intro ?_ ?_) | ((with_reducible first | refine Or.inl (And.intro (And.intro mixedP ?_) ?_) | refine Or.inl (And.intro mixedP ?_)); kernel_rfl) | simp only [go_sem,ldK,ldW,blindK,List.mem_singleton,List.not_mem_nil,Nat.reduceEqDiff,Nat.reduceAdd,Nat.reduceMul,Nat.reduceLeDiff,Int.reduceBEq,Clause.ds,Clause.av,Nat.lt_irrefl,decide_false,hck,hF,List.length_map,beq_self_eq_true])
       all_goals first | exact hcp | exact hcz | exact Try.underlying4 | skip
       all_goals first | omega | (unfold maxLen; omega) | (right; omega) | (left; simp; done) | (simp only [wk3,wkL2,wk2,wkL,wk1_d,wk1_own,wk1_nil,and_self]; done) | (intro i hi; simp only [upd]; (repeat' split); all_goals first | rfl | omega) | skip
     | true =>
       rw [hck, Bool.true_and] at hF
       cases hb : c.body.length == 0 with
       | false =>
         rw [hb, Bool.false_and] at hF
         repeat' (first | (with_reducible refine Or.inr (AW.treeX (E := EqT.no _) [] [0,3] (.one 1 (.one 2 (.one 4 (.one 5 (.one 6 (.one 7 (.one 8 (.one 9 (.one 10 (.one 11 (.one 12 (.one 13 (.one 14 (.one 15 (.one 16 (.one 17 .fin)))))))))))))))) mixedP ?_ ?_ ?_ ?_); decide +kernel; (simp only [List.length_cons,List.length_nil]; decide); (intro j hj; exact absurd hj List.not_mem_nil)) | (with_reducible refine (AW.treeX (E := EqT.no _) [] [0,3] (.one 1 (.one 2 (.one 4 (.one 5 (.one 6 (.one 7 (.one 8 (.one 9 (.one 10 (.one 11 (.one 12 (.one 13 (.one 14 (.one 15 (.one 16 (.one 17 .fin)))))))))))))))) mixedP ?_ ?_ ?_ ?_); decide +kernel; (simp only [List.length_cons,List.length_nil]; decide); (intro j hj; exact absurd hj List.not_mem_nil)) | (with_reducible refine MTq.of 4000 (by simp) ?_ ?_) | (with_reducible refine MTq.nil ?_) | (with_reducible refine MT.one 4000 (by simp) ?_) | (with_reducible refine MT.two 4000 (by simp) ?_ ?_) | (with_reducible refine MT.fin ?_) | (with_reducible first | refine XG_split (fun hq => ?_) (fun hq => ?_) | refine MX1.of 4000 (by simp) ?_ | refine MX2.of 4000 (by simp) ?_ | refine And.intro ?_ ?_) | ((with_reducible first | refine Or.inl (And.intro (And.intro mixedP ?_) ?_) | refine Or.inl (And.intro mixedP ?_)); kernel_rfl) | simp only [go_sem,ldK,ldW,blindK,List.mem_singleton,List.not_mem_nil,Nat.reduceEqDiff,Nat.reduceAdd,Nat.reduceMul,Nat.reduceLeDiff,Int.reduceBEq,Clause.ds,Clause.av,Nat.lt_irrefl,decide_false,hck,hb,hF,List.length_map,beq_self_eq_true])
         all_goals first | exact hcp | exact hcz | exact Try.underlying4 | skip
         all_goals first | omega | (unfold maxLen; omega) | (right; omega) | (left; simp; done) | (simp only [wk3,wkL2,wk2,wkL,wk1_d,wk1_own,wk1_nil,and_self]; done) | (intro i hi; simp only [upd]; (repeat' split); all_goals first | rfl | omega) | skip
       | true =>
         rw [hb, Bool.true_and] at hF
         repeat' (first | (with_reducible refine Or.inr (AW.treeX (E := EqT.no _) [] [0,3] (.one 1 (.one 2 (.one 4 (.one 5 (.one 6 (.one 7 (.one 8 (.one 9 (.one 10 (.one 11 (.one 12 (.one 13 (.one 14 (.one 15 (.one 16 (.one 17 .fin)))))))))))))))) mixedP ?_ ?_ ?_ ?_); decide +kernel; (simp only [List.length_cons,List.length_nil]; decide); (intro j hj; exact absurd hj List.not_mem_nil)) | (with_reducible refine (AW.treeX (E := EqT.no _) [] [0,3] (.one 1 (.one 2 (.one 4 (.one 5 (.one 6 (.one 7 (.one 8 (.one 9 (.one 10 (.one 11 (.one 12 (.one 13 (.one 14 (.one 15 (.one 16 (.one 17 .fin)))))))))))))))) mixedP ?_ ?_ ?_ ?_); decide +kernel; (simp only [List.length_cons,List.length_nil]; decide); (intro j hj; exact absurd hj List.not_mem_nil)) | (with_reducible refine MTq.of 4000 (by simp) ?_ ?_) | (with_reducible refine MTq.nil ?_) | (with_reducible refine MT.one 4000 (by simp) ?_) | (with_reducible refine MT.two 4000 (by simp) ?_ ?_) | (with_reducible refine MT.fin ?_) | (with_reducible first | refine XG_split (fun hq => ?_) (fun hq => ?_) | refine MX1.of 4000 (by simp) ?_ | refine MX2.of 4000 (by simp) ?_ | refine And.intro ?_ ?_) | ((with_reducible first | refine Or.inl (And.intro (And.intro mixedP ?_) ?_) | refine Or.inl (And.intro mixedP ?_)); kernel_rfl) | simp only [go_sem,ldK,ldW,blindK,List.mem_singleton,List.not_mem_nil,Nat.reduceEqDiff,Nat.reduceAdd,Nat.reduceMul,Nat.reduceLeDiff,Int.reduceBEq,Clause.ds,Clause.av,Nat.lt_irrefl,decide_false,hck,hb,hF,List.length_map,beq_self_eq_true])
         all_goals first | exact hcp | exact hcz | exact Try.underlying4 | skip
         all_goals first | omega | (unfold maxLen; omega) | (right; omega) | (left; simp; done) | (simp only [wk3,wkL2,wk2,wkL,wk1_d,wk1_own,wk1_nil,and_self]; done) | (intro i hi; simp only [upd]; (repeat' split); all_goals first | rfl | omega) | skip
set_option maxRecDepth 20000 in
set_option maxHeartbeats 8000000 in
theorem law10_ok : FsOk Try.prog 10 law4S := by
 refine of_Y1 (E := EqT.no _) (F := (((((Ft.no.put 13 fixedS).put 24 pcheckS).put 19 copyS).put 28 pfactS).put 26 pvarsS).put 22 copyLitS) Clause.av (fun _ _ => aClause_le) Try.func10 rfl (by kernel_rfl) [.tmp 2] rfl Try.ntmps10 (by decide) (((((((FtOk.no _).put fixed_ok).put pcheck_ok).put copy_ok).put pfact_ok).put pvars_ok).put copyLit_ok) ?_
 intro c h n hp hok
 obtain ⟨hcp, hci, hcz⟩ := hp
 have hcb : szC ⟨c.head, []⟩ := ⟨hcz.1, Nat.zero_le _, fun l hl => absurd hl List.not_mem_nil⟩
 have hla : c.head.args.length ≤ 1099511627776 := hcz.1.2.1
 have hok1 : HOk (n + 1) (upd h n (.box c.ds)) := (hok.mono (Nat.le_succ n)).upd_box (Nat.lt_succ_self n) (by simp only [go_sem, Clause.ds])
 cases hck : checkB c with
 | false =>
   obtain ⟨hF, hV⟩ := fact_not hck
   repeat' (first | (with_reducible first | refine XG_split (fun hq => ?_) (fun hq => ?_) | refine MX1.of 4000 (by simp) ?_ | refine MX2.of 4000 (by simp) ?_ | refine And.intro ?_ ?_) | ((with_reducible first | refine Or.inl (And.intro (And.intro mixedP ?_) ?_) | refine Or.inl (And.intro mixedP ?_)); kernel_rfl) | simp only [go_sem,Nat.reduceEqDiff,Nat.reduceAdd,Nat.reduceMul,Nat.reduceLeDiff,Int.reduceBEq,Clause.av,Clause.ds,hck,hF,hV,List.map_nil,List.length_nil,beq_self_eq_true])
   all_goals first | exact hcp | exact hcz | skip
   all_goals first | omega | (unfold maxLen; omega) | (right; omega) | (left; simp; done) | (simp only [wk3,wkL2,wk2,wkL,wk1_d,wk1_own,wk1_nil,and_self]; done) | (intro i hi; simp only [upd]; (repeat' split); all_goals first | rfl | omega) | skip
 | true =>
   have hbc := bare_check hck
   have hbf := bare_fact hck
   have hok2 : HOk (n + 1 + 1) (upd (upd h n (.box c.ds)) (n + 1) (.box c.bare)) := (hok1.mono (Nat.le_succ _)).upd_box (Nat.lt_succ_self _) (by simp only [go_sem, Clause.bare])
   repeat' (first | (with_reducible first | refine XG_split (fun hq => ?_) (fun hq => ?_) | refine MX1.of 4000 (by simp) ?_ | refine MX2.of 4000 (by simp) ?_ | refine And.intro ?_ ?_) | ((with_reducible first | refine Or.inl (And.intro (And.intro mixedP ?_) ?_) | refine Or.inl (And.intro mixedP ?_)); kernel_rfl) | simp only [go_sem,Nat.reduceEqDiff,Nat.reduceAdd,Nat.reduceMul,Nat.reduceLeDiff,Int.reduceBEq,Clause.av,Clause.ds,Lit.av,hck])
   all_goals first | exact hcp | exact hcz | exact hla | skip
   all_goals first | omega | (unfold maxLen; omega) | (right; omega) | (left; simp; done) | (simp only [wk3,wkL2,wk2,wkL,wk1_d,wk1_own,wk1_nil,and_self]; done) | (intro i hi; simp only [upd]; (repeat' split); all_goals first | rfl | omega) | skip
   refine AW.loopJ (E := EqT.no _) (S := fun k : Nat => ⟨fr [(1, .p n 0), (3, .p (n + 1) 0), (4, vB ((c.head.args.take k).any fun t => decide (0 < t.var.size))), (5, vI k)] (List.replicate 66 .any), upd (upd h n (.box c.ds)) (n + 1) (.box c.bare), n, n + 1 + 1⟩) (I := fun k => k ≤ c.head.args.length) (μ := fun k => c.head.args.length - k) 0 (Nat.zero_le _) ?_ 4000 (fun _ => by simp only [fr_len, List.length_replicate]; decide) ?_
   · exact Wk.of (by simp only [go_sem, List.take_zero, List.any_nil]) (by intro i hi; simp only [upd, Clause.ds, Clause.bare]; (repeat' split); all_goals first | rfl | omega) hok2 (by omega) (by omega) (by simp only [go_sem]; omega)
   · intro k hk
     have hk : k ≤ c.head.args.length := hk
     rcases Nat.lt_or_ge k c.head.args.length with hkl | hkl
     · have hnx : (c.head.args.take (k + 1)).any (fun t => decide (0 < t.var.size)) = ((c.head.args.take k).any (fun t => decide (0 < t.var.size)) || decide (0 < c.head.args[k].var.size)) := by
        rw [List.take_succ_eq_append_getElem hkl, List.any_append, List.any_cons, List.any_nil, Bool.or_false]
       obtain ⟨fr0, hfr⟩ : ∃ x, (c.head.args.take k).any (fun t => decide (0 < t.var.size)) = x := ⟨_, rfl⟩
       rw [hfr] at hnx
       have hds : decide ((0 : Int) < (c.head.args[k].var.size : Int)) = decide (0 < c.head.args[k].var.size) := by
        rw [decide_eq_decide]; omega
       cases fr0 with
       | true =>
         repeat' (first | (with_reducible first | refine XG_split (fun hq => ?_) (fun hq => ?_) | refine MX1.of 4000 (by simp) ?_ | refine MX2.of 4000 (by simp) ?_ | refine And.intro ?_ ?_) | ((with_reducible first | refine Or.inl (And.intro (And.intro mixedP ?_) ?_) | refine Or.inl (And.intro mixedP ?_)); kernel_rfl) | simp only [go_sem,Nat.reduceEqDiff,Nat.reduceAdd,Nat.reduceMul,Nat.reduceLeDiff,Int.reduceBEq,Clause.ds,Clause.bare,hfr,decide_eq_true hkl,List.length_map])
         all_goals first | omega | (unfold maxLen; omega) | (right; omega) | (left; simp; done) | (simp only [wk3,wkL2,wk2,wkL,wk1_d,wk1_own,wk1_nil,and_self]; done) | (intro i hi; simp only [upd]; (repeat' split); all_goals first | rfl | omega) | skip
         exact ⟨k + 1, hkl, Wk.same (by simp only [go_sem, hnx, Bool.true_or]) hok2 (by omega) (by simp only [go_sem]; omega), by omega⟩
       | false =>
         repeat' (first | (with_reducible first | refine XG_split (fun hq => ?_) (fun hq => ?_) | refine MX1.of 4000 (by simp) ?_ | refine MX2.of 4000 (by simp) ?_ | refine And.intro ?_ ?_) | ((with_reducible first | refine Or.inl (And.intro (And.intro mixedP ?_) ?_) | refine Or.inl (And.intro mixedP ?_)); kernel_rfl) | simp only [go_sem,Nat.reduceEqDiff,Nat.reduceAdd,Nat.reduceMul,Nat.reduceLeDiff,Int.reduceBEq,Clause.ds,Clause.bare,hfr,hds,decide_eq_true hkl,List.getElem?_eq_getElem hkl,Term.cells,List.length_map,List.getElem?_map,Option.map_some])
         all_goals first | omega | (unfold maxLen; omega) | (right; omega) | (left; simp; done) | (simp only [wk3,wkL2,wk2,wkL,wk1_d,wk1_own,wk1_nil,and_self]; done) | (intro i hi; simp only [upd]; (repeat' split); all_goals first | rfl | omega) | skip
         exact ⟨k + 1, hkl, Wk.same (by simp only [go_sem, hnx, Bool.false_or]) hok2 (by omega) (by simp only [go_sem]; omega), by omega⟩
     · obtain rfl : k = c.head.args.length := by omega
       have hd0 : dRows cLit [] = some [] := rfl
       obtain ⟨A, hA⟩ : ∃ A, c.head.args.any (fun t => decide (0 < t.var.size)) = A := ⟨_, rfl⟩
       rw [hA] at hbf
       have htk : c.head.args.take c.head.args.length = c.head.args := List.take_length
       cases A with
       | false =>
         have hbf : factB ⟨c.head, []⟩ = true := hbf
         cases hb : c.body.length == 0 with
         | true =>
           repeat' (first | (with_reducible first | refine XG_split (fun hq => ?_) (fun hq => ?_) | refine MX1.of 4000 (by simp) ?_ | refine MX2.of 4000 (by simp) ?_ | refine And.intro ?_ ?_) | ((with_reducible first | refine Or.inl (And.intro (And.intro mixedP ?_) ?_) | refine Or.inl (And.intro mixedP ?_)); kernel_rfl) | simp only [go_sem,Nat.reduceEqDiff,Nat.reduceAdd,Nat.reduceMul,Nat.reduceLeDiff,Int.reduceBEq,Clause.av,Clause.ds,Clause.bare,hd0,htk,hA,hbf,hbc,hb,Nat.lt_irrefl,Int.lt_irrefl,decide_false,List.length_map,beq_self_eq_true])
           all_goals first | exact hcp | exact hcz | exact hcb | exact Try.underlying4 | (rename_i hq; exact absurd hq (by decide)) | skip
           all_goals first | omega | (unfold maxLen; omega) | (right; omega) | (left; simp; done) | (simp only [wk3,wkL2,wk2,wkL,wk1_d,wk1_own,wk1_nil,and_self]; done) | (intro i hi; simp only [upd]; (repeat' split); all_goals first | rfl | omega) | skip
         | false =>
           have hF := fact_body hb
           repeat' (first | (with_reducible first | refine XG_split (fun hq => ?_) (fun hq => ?_) | refine MX1.of 4000 (by simp) ?_ | refine MX2.of 4000 (by simp) ?_ | refine And.intro ?_ ?_) | ((with_reducible first | refine Or.inl (And.intro (And.intro mixedP ?_) ?_) | refine Or.inl (And.intro mixedP ?_)); kernel_rfl) | simp only [go_sem,Nat.reduceEqDiff,Nat.reduceAdd,Nat.reduceMul,Nat.reduceLeDiff,Int.reduceBEq,Clause.av,Clause.ds,Clause.bare,hd0,htk,hA,hbf,hbc,hb,hF,Nat.lt_irrefl,Int.lt_irrefl,decide_false,List.length_map,beq_self_eq_true])
           all_goals first | exact hcp | exact hcz | exact hcb | exact Try.underlying4 | (rename_i hq; exact absurd hq (by decide)) | skip
           all_goals first | omega | (unfold maxLen; omega) | (right; omega) | (left; simp; done) | (simp only [wk3,wkL2,wk2,wkL,wk1_d,wk1_own,wk1_nil,and_self]; done) | (intro i hi; simp only [upd]; (repeat' split); all_goals first | rfl | omega) | skip
       | true =>
         have hbf : factB ⟨c.head, []⟩ = false := hbf
         cases hb : c.body.length == 0 with
         | true =>
           repeat' (first | (with_reducible first | refine XG_split (fun hq => ?_) (fun hq => ?_) | refine MX1.of 4000 (by simp) ?_ | refine MX2.of 4000 (by simp) ?_ | refine And.intro ?_ ?_) | ((with_reducible first | refine Or.inl (And.intro (And.intro mixedP ?_) ?_) | refine Or.inl (And.intro mixedP ?_)); kernel_rfl) | simp only [go_sem,Nat.reduceEqDiff,Nat.reduceAdd,Nat.reduceMul,Nat.reduceLeDiff,Int.reduceBEq,Clause.av,Clause.ds,Clause.bare,hd0,htk,hA,hbf,hbc,hb,Nat.lt_irrefl,Int.lt_irrefl,decide_false,List.length_map,beq_self_eq_true])
           all_goals first | exact hcp | exact hcz | exact hcb | exact Try.underlying4 | (rename_i hq; exact absurd hq (by decide)) | skip
           all_goals first | omega | (unfold maxLen; omega) | (right; omega) | (left; simp; done) | (simp only [wk3,wkL2,wk2,wkL,wk1_d,wk1_own,wk1_nil,and_self]; done) | (intro i hi; simp only [upd]; (repeat' split); all_goals first | rfl | omega) | skip
         | false =>
           have hF := fact_body hb
           repeat' (first | (with_reducible first | refine XG_split (fun hq => ?_) (fun hq => ?_) | refine MX1.of 4000 (by simp) ?_ | refine MX2.of 4000 (by simp) ?_ | refine And.intro ?_ ?_) | ((with_reducible first | refine Or.inl (And.intro (And.intro mixedP ?_) ?_) | refine Or.inl (And.intro mixedP ?_)); kernel_rfl) | simp only [go_sem,Nat.reduceEqDiff,Nat.reduceAdd,Nat.reduceMul,Nat.reduceLeDiff,Int.reduceBEq,Clause.av,Clause.ds,Clause.bare,hd0,htk,hA,hbf,hbc,hb,hF,Nat.lt_irrefl,Int.lt_irrefl,decide_false,List.length_map,beq_self_eq_true])
           all_goals first | exact hcp | exact hcz | exact hcb | exact Try.underlying4 | (rename_i hq; exact absurd hq (by decide)) | skip
           all_goals first | omega | (unfold maxLen; omega) | (right; omega) | (left; simp; done) | (simp only [wk3,wkL2,wk2,wkL,wk1_d,wk1_own,wk1_nil,and_self]; done) | (intro i hi; simp only [upd]; (repeat' split); all_goals first | rfl | omega) | skip
end Go.Proofs.Ytdhocmakbapfpaa.M
end
section
namespace Go.Proofs.Ytdhocmakbapfpaa.M
open Go.RowKit Go.Proofs.YtdhocmakbapfpaaW.PrintWords
section
variable {β : Type} {ok : Int → Int → Prop}
def Tw (ok : Int → Int → Prop) : Except (Int × Int) β → Except (Int × Int) β → Prop
 | .error (p, e), .error (p', e') => e = e' ∧ ok p p'
 | .ok a, .ok b => a = b
 | _, _ => False
theorem Tw.or {r r' : Except (Int × Int) β} (h : Tw ok r r') : (∃ p p' e, r = .error (p, e) ∧ r' = .error (p', e) ∧ ok p p') ∨ ∃ b, r = .ok b ∧ r' = .ok b := by
 rcases r with ⟨p, e⟩ | b <;> rcases r' with ⟨p', e'⟩ | b'
 · obtain ⟨rfl, h⟩ := h
   exact .inl ⟨p, p', e, rfl, rfl, h⟩
 · exact h.elim
 · exact h.elim
 · have h : b = b' := h
   exact .inr ⟨b, rfl, by rw [h]⟩
theorem Tw.err {p p' e : Int} (h : ok p p') : Tw ok (.error (p, e) : Except (Int × Int) β) (.error (p', e)) := ⟨rfl, h⟩
theorem Tw.same (b : β) : Tw ok (.ok b) (.ok b) := rfl
end
structure Twin (ok : Int → Int → Prop) (T : List Tok) (s : ByteArray) (T' : List Tok) (s' : ByteArray) : Prop where
 k : ∀ n, kindT T' n = kindT T n
 x : ∀ n, textT T' s' n = textT T s n
 i : ∀ n y, isT T' s' n y = isT T s n y
 p : ∀ n, ok (posOf T s n) (posOf T' s' n)
section
variable {ok : Int → Int → Prop} {T T' : List Tok} {s s' : ByteArray} (h : Twin ok T s T' s')
include h
theorem take_tw (ks : List Int) (n : Nat) : Tw ok (takeP T s ks n) (takeP T' s' ks n) := by
 unfold takeP
 rw [h.k, h.x]
 split
 · exact Tw.same _
 · exact Tw.err (h.p n)
theorem need_tw (x : ByteArray) (n : Nat) : Tw ok (needP T s x n) (needP T' s' x n) := by
 unfold needP
 rw [h.i]
 split
 · exact Tw.same _
 · exact Tw.err (h.p n)
theorem term_tw (n : Nat) : Tw ok (termP T s n) (termP T' s' n) := by
 unfold termP
 rw [h.k]
 rcases (take_tw h [1, 2, 3] n).or with ⟨p, p', e, h1, h2, hq⟩ | ⟨⟨x, m⟩, h1, h2⟩ <;> rw [h1, h2]
 · exact Tw.err hq
 · exact Tw.same _
theorem tail_tw {α : Type} {one one' : Nat → PR α} (ho : ∀ n, Tw ok (one n) (one' n)) : ∀ r m : Nat, Tw ok (tailP T s one r m) (tailP T' s' one' r m)
 | 0, m => by
   unfold tailP
   rw [h.i]
   split
   · exact Tw.err (h.p m)
   · exact Tw.same _
 | r + 1, m => by
   unfold tailP
   rw [h.i]
   split
   · rcases (ho (m + 1)).or with ⟨p, p', e, h1, h2, hq⟩ | ⟨⟨x, k⟩, h1, h2⟩ <;> rw [h1, h2]
     · exact Tw.err hq
     · rcases (tail_tw ho r k).or with ⟨p, p', e, h3, h4, hq⟩ | ⟨⟨y, j⟩, h3, h4⟩ <;> simp only [h3, h4]
       · exact Tw.err hq
       · exact Tw.same _
   · exact Tw.same _
theorem list_tw {α : Type} {one one' : Nat → PR α} (ho : ∀ n, Tw ok (one n) (one' n)) (most n : Nat) : Tw ok (listP T s one most n) (listP T' s' one' most n) := by
 unfold listP
 rcases (ho n).or with ⟨p, p', e, h1, h2, hq⟩ | ⟨⟨x, k⟩, h1, h2⟩ <;> rw [h1, h2]
 · exact Tw.err hq
 · rcases (tail_tw h ho (most - 1) k).or with ⟨p, p', e, h3, h4, hq⟩ | ⟨⟨y, j⟩, h3, h4⟩ <;> simp only [h3, h4]
   · exact Tw.err hq
   · exact Tw.same _
theorem atom_tw (n : Nat) : Tw ok (atomP T s n) (atomP T' s' n) := by
 unfold atomP
 rcases (take_tw h [1] n).or with ⟨p, p', e, h1, h2, hq⟩ | ⟨⟨x, m⟩, h1, h2⟩ <;> rw [h1, h2]
 · exact Tw.err hq
 · simp only [h.i]
   split
   · rcases (list_tw h (term_tw h) 4 (m + 1)).or with ⟨p, p', e, h3, h4, hq⟩ | ⟨⟨y, j⟩, h3, h4⟩ <;> rw [h3, h4]
     · exact Tw.err hq
     · rcases (need_tw h closes j).or with ⟨p, p', e, h5, h6, hq⟩ | ⟨⟨u, i⟩, h5, h6⟩ <;> simp only [h5, h6]
       · exact Tw.err hq
       · exact Tw.same _
   · exact Tw.same _
theorem said_tw (n : Nat) : Tw ok (saidP T s n) (saidP T' s' n) := by
 unfold saidP
 rw [show speaks T' s' n = speaks T s n by unfold speaks; rw [h.k, h.i]]
 split
 · rcases (term_tw h n).or with ⟨p, p', e, h1, h2, hq⟩ | ⟨⟨x, m⟩, h1, h2⟩ <;> rw [h1, h2]
   · exact Tw.err hq
   · rcases (need_tw h says m).or with ⟨p, p', e, h3, h4, hq⟩ | ⟨⟨u, i⟩, h3, h4⟩ <;> simp only [h3, h4]
     · exact Tw.err hq
     · rcases (atom_tw h i).or with ⟨p, p', e, h5, h6, hq⟩ | ⟨⟨u, i⟩, h5, h6⟩ <;> simp only [h5, h6]
       · exact Tw.err hq
       · exact Tw.same _
 · rcases (atom_tw h n).or with ⟨p, p', e, h5, h6, hq⟩ | ⟨⟨u, i⟩, h5, h6⟩ <;> rw [h5, h6]
   · exact Tw.err hq
   · exact Tw.same _
theorem pair_tw (k : Int) (a : Term) (m : Nat) : Tw ok (pairP T s k a m) (pairP T' s' k a m) := by
 unfold pairP
 rcases (term_tw h (m + 1)).or with ⟨p, p', e, h1, h2, hq⟩ | ⟨⟨x, m⟩, h1, h2⟩ <;> rw [h1, h2]
 · exact Tw.err hq
 · exact Tw.same _
theorem saidL_tw (k : Int) (n : Nat) : Tw ok (saidL k (saidP T s n)) (saidL k (saidP T' s' n)) := by
 rcases (said_tw h n).or with ⟨p, p', e, h1, h2, hq⟩ | ⟨⟨⟨x, y, z⟩, m⟩, h1, h2⟩ <;> rw [h1, h2]
 · exact Tw.err hq
 · exact Tw.same _
theorem literal_tw (n : Nat) : Tw ok (literalP T s n) (literalP T' s' n) := by
 unfold literalP
 rw [h.i, show compares T' s' n = compares T s n by unfold compares; simp only [h.k, h.i]]
 split
 · exact saidL_tw h 2 _
 · split
   · rcases (term_tw h n).or with ⟨p, p', e, h1, h2, hq⟩ | ⟨⟨x, m⟩, h1, h2⟩ <;> rw [h1, h2]
     · exact Tw.err hq
     · simp only [h.i]
       split
       · exact pair_tw h _ _ _
       · split
         · exact pair_tw h _ _ _
         · exact Tw.err (h.p m)
   · exact saidL_tw h 1 _
theorem body_tw (n : Nat) : Tw ok (bodyP T s n) (bodyP T' s' n) := by
 unfold bodyP
 rw [h.i]
 split
 · exact list_tw h (literal_tw h) 6 _
 · exact Tw.same _
theorem clause_tw (n : Nat) : Tw ok (clauseP T s n) (clauseP T' s' n) := by
 unfold clauseP
 rcases (atom_tw h n).or with ⟨p, p', e, h1, h2, hq⟩ | ⟨⟨⟨x, ts⟩, m⟩, h1, h2⟩ <;> rw [h1, h2]
 · exact Tw.err hq
 · rcases (body_tw h m).or with ⟨p, p', e, h3, h4, hq⟩ | ⟨⟨y, j⟩, h3, h4⟩ <;> simp only [h3, h4]
   · exact Tw.err hq
   · rcases (need_tw h dot j).or with ⟨p, p', e, h5, h6, hq⟩ | ⟨⟨u, i⟩, h5, h6⟩ <;> simp only [h5, h6]
     · exact Tw.err hq
     · exact Tw.same _
end
theorem run_tw {α : Type} {ok : Int → Int → Prop} {s s' : ByteArray} {one one' : List Tok → Nat → PR α} (h : Twin ok (allT s).1 s (allT s').1 s') (hl : (allT s').1.length = (allT s).1.length) (he : (allT s').2.2 = (allT s).2.2)
 (hp : (allT s).2.2 ≠ 0 → ok (allT s).2.1 (allT s').2.1) (ho : Tw ok (one (allT s).1 0) (one' (allT s').1 0)) : Tw ok (runP s one) (runP s' one') := by
 unfold runP
 rw [he]
 split
 · rename_i hc
   exact Tw.err (hp (by simpa using hc))
 · rcases ho.or with ⟨p, p', e, h1, h2, hq⟩ | ⟨⟨x, m⟩, h1, h2⟩ <;> rw [h1, h2]
   · exact Tw.err hq
   · simp only [hl]
     split
     · exact Tw.err (h.p m)
     · exact Tw.same _
theorem parse_tw {ok : Int → Int → Prop} {s s' : ByteArray} (h : Twin ok (allT s).1 s (allT s').1 s') (hl : (allT s').1.length = (allT s).1.length) (he : (allT s').2.2 = (allT s).2.2)
 (hp : (allT s).2.2 ≠ 0 → ok (allT s).2.1 (allT s').2.1) : (ansP Clause.z id (parseP s')).1 = (ansP Clause.z id (parseP s)).1 ∧ (ansP Clause.z id (parseP s')).2.2 = (ansP Clause.z id (parseP s)).2.2 ∧
   ((ansP Clause.z id (parseP s)).2.2 ≠ 0 → ok (ansP Clause.z id (parseP s)).2.1 (ansP Clause.z id (parseP s')).2.1) := by
 have hr : Tw ok (parseP s) (parseP s') := run_tw h hl he hp (clause_tw h 0)
 rcases hr.or with ⟨p, p', e, h1, h2, hq⟩ | ⟨b, h1, h2⟩ <;> rw [h1, h2]
 · exact ⟨rfl, rfl, fun _ => hq⟩
 · exact ⟨rfl, rfl, fun hc => absurd rfl hc⟩
theorem bytesOf_append (a b : ByteArray) : bytesOf (a ++ b) = bytesOf a ++ bytesOf b := by
 unfold bytesOf
 rw [ByteArray.data_append, Array.toList_append, List.map_append]
theorem bt_list (s : ByteArray) (p : Nat) : bt s p = (bytesOf s).getD p 0 := by
 rw [← rd_bytesOf]
 rfl
theorem bt_right (a s : ByteArray) (p : Nat) : bt (a ++ s) ((p + a.size : Nat) : Int) = bt s p := by
 rw [bt_list, bt_list, bytesOf_append]
 rw [List.getD_eq_getElem?_getD, List.getD_eq_getElem?_getD, List.getElem?_append_right (by rw [bytesOf_length]; omega), bytesOf_length, Nat.add_sub_cancel]
theorem bt_left (s t : ByteArray) (p : Nat) (h : p < s.size) : bt (s ++ t) (p : Int) = bt s p := by
 rw [bt_list, bt_list, bytesOf_append]
 rw [List.getD_eq_getElem?_getD, List.getD_eq_getElem?_getD, List.getElem?_append_left (by rw [bytesOf_length]; exact h)]
theorem cut_right (a s : ByteArray) (p q : Nat) : (a ++ s).extract (p + a.size) (q + a.size) = s.extract p q := by
 rw [Nat.add_comm p, Nat.add_comm q]
 exact ByteArray.extract_append_size_add
theorem cut_left (s t : ByteArray) (p q : Nat) (h : q ≤ s.size) : (s ++ t).extract p q = s.extract p q := by
 rw [ByteArray.extract_append, show q - s.size = 0 by omega]
 apply ByteArray.ext
 simp
theorem runTo_right (a s : ByteArray) (p : Nat) : runTo (a ++ s) (p + a.size) = runTo s p + a.size := by
 unfold runTo
 rw [bytesOf_append, List.drop_append, bytesOf_length, Nat.add_sub_cancel, List.drop_eq_nil_of_le (by rw [bytesOf_length]; omega), List.nil_append]
 omega
def shT (k : Nat) (t : Tok) : Tok := ⟨t.kind, t.lo + k, t.hi + k⟩
def shR (k : Nat) (r : Tok × Int) : Tok × Int := if r.2 = 0 then (shT k r.1, 0) else (Tok.z, r.2)
theorem piece_right (a s : ByteArray) (p q : Nat) : pieceTok (a ++ s) (p + a.size) (q + a.size) = shR a.size (pieceTok s p q) := by
 unfold pieceTok
 rw [cut_right]
 by_cases h : sortK (s.extract p q) = 0
 · rw [if_pos h, if_pos h]
   rfl
 · rw [if_neg h, if_neg h]
   rw [show ((p + a.size : Nat) : Int) = (p : Int) + a.size by omega, show ((q + a.size : Nat) : Int) = (q : Int) + a.size by omega]
   rfl
theorem nxt_right (a s : ByteArray) (p : Nat) : nxt (a ++ s) (p + a.size) = nxt s p := by
 unfold nxt
 rw [ByteArray.size_append, show p + a.size + 1 = (p + 1) + a.size by omega, bt_right]
 by_cases h : p + 1 < s.size
 · rw [if_pos h, if_pos (by omega)]
 · rw [if_neg h, if_neg (by omega)]
theorem one_right (a s : ByteArray) (p : Nat) : oneT (a ++ s) (p + a.size) = shR a.size (oneT s p) := by
 unfold oneT
 by_cases hp : s.size ≤ p
 · rw [if_pos hp, if_pos (by rw [ByteArray.size_append]; omega)]
   rfl
 rw [if_neg hp, if_neg (by rw [ByteArray.size_append]; omega)]
 rw [nxt_right, bt_right, show p + a.size + 1 = (p + 1) + a.size by omega, runTo_right, piece_right]
 have e1 : ((p + a.size : Nat) : Int) = (p : Int) + a.size := by omega
 simp only [e1]
 generalize bt s p = c
 cases c1 : (c == 32 || c == 9)
 · cases c2 : c == 45
   · cases c3 : pieceB c
     · cases c4 : (c == 40 || c == 41 || c == 44 || c == 46 || c == 60)
       · cases c5 : ((c == 33 && nxt s p == 61) || (c == 58 && nxt s p == 45))
         · rfl
         · rw [show (p : Int) + a.size + 2 = (p : Int) + 2 + a.size by omega]
           rfl
       · rw [show (p : Int) + a.size + 1 = (p : Int) + 1 + a.size by omega]
         rfl
     · rfl
   · cases digB (nxt s p)
     · rfl
     · rfl
 · rfl
theorem all_right (a s : ByteArray) : ∀ (f p : Nat) (acc : List Tok), allGo (a ++ s) f (p + a.size) (acc.map (shT a.size)) =
 ((allGo s f p acc).1.map (shT a.size), if (allGo s f p acc).2.2 = 0 then 0 else (allGo s f p acc).2.1 + a.size, (allGo s f p acc).2.2)
 | 0, p, acc => rfl
 | f + 1, p, acc => by
   unfold allGo
   rw [one_right]
   by_cases hp : s.size ≤ p
   · rw [if_pos hp, if_pos (by rw [ByteArray.size_append]; omega)]
     rfl
   rw [if_neg hp, if_neg (by rw [ByteArray.size_append]; omega)]
   by_cases h0 : (oneT s p).2 = 0
   · have hk := oneT_ok s p h0
     have e1 : (shR a.size (oneT s p)).2 = 0 := by unfold shR; rw [if_pos h0]
     have e2 : (shR a.size (oneT s p)).1 = shT a.size (oneT s p).1 := by unfold shR; rw [if_pos h0]
     rw [e1, e2, h0, if_neg (by decide), if_pos rfl, if_neg (by decide), if_pos rfl]
     have := all_right a s f (oneT s p).1.hi.toNat (acc ++ [(oneT s p).1])
     rw [List.map_append] at this
     rw [show (shT a.size (oneT s p).1).hi.toNat = (oneT s p).1.hi.toNat + a.size by show ((oneT s p).1.hi + a.size).toNat = _; omega]
     exact this
   · have e1 : (shR a.size (oneT s p)).2 = (oneT s p).2 := by unfold shR; rw [if_neg h0]
     rw [e1]
     by_cases h4 : (oneT s p).2 = 4
     · rw [if_pos h4, if_pos h4, show p + a.size + 1 = (p + 1) + a.size by omega]
       exact all_right a s f (p + 1) acc
     · rw [if_neg h4, if_neg h4, if_neg h0, if_neg h0]
       simp only [h0, if_false, List.map_nil, Prod.mk.injEq, true_and, and_true]
       omega
theorem blanks_go (a s : ByteArray) (ha : ∀ i : Nat, i < a.size → bt a i = 32) : ∀ (k p : Nat), p + k = a.size → allGo (a ++ s) (k + (s.size + 1)) p [] = allGo (a ++ s) (s.size + 1) a.size []
 | 0, p, h => by
   obtain rfl : p = a.size := by omega
   rw [Nat.zero_add]
 | k + 1, p, h => by
   rw [show k + 1 + (s.size + 1) = (k + (s.size + 1)) + 1 by omega]
   rw [show allGo (a ++ s) ((k + (s.size + 1)) + 1) p [] = allGo (a ++ s) (k + (s.size + 1)) (p + 1) [] by
    have hb : bt (a ++ s) (p : Int) = 32 := by rw [bt_left a s p (by omega)]; exact ha p (by omega)
    have ho : (oneT (a ++ s) p).2 = 4 := by
     unfold oneT
     rw [if_neg (by rw [ByteArray.size_append]; omega), hb]
     rfl
    conv => lhs; unfold allGo
    rw [if_neg (by rw [ByteArray.size_append]; omega), if_pos ho]]
   exact blanks_go a s ha k (p + 1) (by omega)
theorem all_ahead (a s : ByteArray) (ha : ∀ i : Nat, i < a.size → bt a i = 32) (h : a.size + s.size ≤ 4096) :
 allT (a ++ s) = ((allT s).1.map (shT a.size), if (allT s).2.2 = 0 then 0 else (allT s).2.1 + a.size, (allT s).2.2) := by
 unfold allT
 rw [if_neg (by rw [ByteArray.size_append]; omega), if_neg (by omega), ByteArray.size_append, show a.size + s.size + 1 = a.size + (s.size + 1) by omega, blanks_go a s ha a.size 0 (by omega)]
 have := all_right a s (s.size + 1) 0 []
 rw [Nat.zero_add] at this
 exact this
theorem tok_ahead (a s : ByteArray) (t : Tok) (h0 : 0 ≤ t.lo) (h1 : 0 ≤ t.hi) : tokS (a ++ s) (shT a.size t) = tokS s t := by
 unfold tokS shT
 show (a ++ s).extract (t.lo + a.size).toNat (t.hi + a.size).toNat = _
 rw [show (t.lo + a.size).toNat = t.lo.toNat + a.size by omega, show (t.hi + a.size).toNat = t.hi.toNat + a.size by omega, cut_right]
theorem twin_ahead (a s : ByteArray) (T : List Tok) (hT : TokOk s T) : Twin (fun p p' => p' = p + a.size) T s (T.map (shT a.size)) (a ++ s) := by
 have hx : ∀ n t, T[n]? = some t → tokS (a ++ s) (shT a.size t) = tokS s t := fun n t h => by
  have := hT.2 t (List.mem_of_getElem? h)
  exact tok_ahead a s t (by omega) (by omega)
 refine ⟨fun n => ?_, fun n => ?_, fun n y => ?_, fun n => ?_⟩
 · unfold kindT
   rw [List.getElem?_map]
   cases h : T[n]? with
   | none => rfl
   | some t => rfl
 · unfold textT
   rw [List.getElem?_map]
   cases h : T[n]? with
   | none => rfl
   | some t => exact hx n t h
 · unfold isT
   rw [List.getElem?_map]
   cases h : T[n]? with
   | none => rfl
   | some t => show ((tokS (a ++ s) (shT a.size t)).toList == y.toList) = _; rw [hx n t h]
 · unfold posOf
   rw [List.getElem?_map]
   cases h : T[n]? with
   | none => show ((a ++ s).size : Int) = s.size + a.size; rw [ByteArray.size_append]; omega
   | some t => rfl
theorem ahead_law (a s : ByteArray) (ha : ∀ i : Nat, i < a.size → bt a i = 32) (h : a.size + s.size ≤ 4096) :
 (ansP Clause.z id (parseP (a ++ s))).1 = (ansP Clause.z id (parseP s)).1 ∧ (ansP Clause.z id (parseP (a ++ s))).2.2 = (ansP Clause.z id (parseP s)).2.2 ∧
   ((ansP Clause.z id (parseP s)).2.2 ≠ 0 → (ansP Clause.z id (parseP (a ++ s))).2.1 = (ansP Clause.z id (parseP s)).2.1 + a.size) := by
 have hA := all_ahead a s ha h
 refine parse_tw (ok := fun p p' => p' = p + a.size) ?_ ?_ ?_ ?_
 · rw [hA]
   exact twin_ahead a s _ (allT_ok s)
 · rw [hA]
   exact List.length_map _
 · rw [hA]
 · intro hc
   rw [hA]
   exact if_neg hc
abbrev ends : ByteArray := ⟨#[9, 32]⟩
theorem takeWhile_end (l : List Int) : (l ++ [9, 32]).takeWhile pieceB = l.takeWhile pieceB := by
 induction l with
 | nil => rfl
 | cons c t ih =>
   rw [List.cons_append]
   by_cases h : pieceB c = true
   · rw [List.takeWhile_cons_of_pos h, List.takeWhile_cons_of_pos h, ih]
   · rw [List.takeWhile_cons_of_neg h, List.takeWhile_cons_of_neg h]
theorem runTo_left (s : ByteArray) (p : Nat) (h : p ≤ s.size) : runTo (s ++ ends) p = runTo s p := by
 unfold runTo
 rw [bytesOf_append, List.drop_append_of_le_length (by rw [bytesOf_length]; exact h)]
 rw [show bytesOf ends = [9, 32] by rfl, takeWhile_end]
theorem nxt_left (s : ByteArray) (p : Nat) (h : p < s.size) : nxt (s ++ ends) p = nxt s p ∨ (nxt (s ++ ends) p = 9 ∧ nxt s p = -1) := by
 unfold nxt
 rw [ByteArray.size_append, show ends.size = 2 by rfl]
 by_cases hp : p + 1 < s.size
 · rw [if_pos hp, if_pos (by omega), bt_left s ends (p + 1) hp]
   exact .inl rfl
 · rw [if_neg hp, if_pos (by omega)]
   refine .inr ⟨?_, rfl⟩
   rw [show p + 1 = 0 + s.size by omega, bt_right]
   rfl
theorem one_left (s : ByteArray) (p : Nat) (h : p < s.size) : oneT (s ++ ends) p = oneT s p := by
 have hz : (s ++ ends).size = s.size + 2 := by rw [ByteArray.size_append]; rfl
 have hq := runTo_le s (p + 1) (by omega)
 unfold oneT
 rw [if_neg (show ¬ (s ++ ends).size ≤ p by omega), if_neg (show ¬ s.size ≤ p by omega), bt_left s ends p h, runTo_left s (p + 1) (by omega)]
 have hpc : pieceTok (s ++ ends) p (runTo s (p + 1)) = pieceTok s p (runTo s (p + 1)) := by
  unfold pieceTok
  rw [cut_left s ends p _ hq]
 rw [hpc]
 rcases nxt_left s p h with e | ⟨e, e'⟩
 · rw [e]
 · rw [e, e']
   rfl
theorem all_left (s : ByteArray) : ∀ (f p : Nat) (acc : List Tok), p ≤ s.size → s.size < f + p → allGo (s ++ ends) (f + 2) p acc = allGo s f p acc
 | 0, p, acc, h, hf => by omega
 | f + 1, p, acc, h, hf => by
   have hz : (s ++ ends).size = s.size + 2 := by rw [ByteArray.size_append]; rfl
   rcases Nat.lt_or_ge p s.size with hp | hp
   · conv => lhs; unfold allGo
     conv => rhs; unfold allGo
     rw [if_neg (show ¬ (s ++ ends).size ≤ p by omega), if_neg (show ¬ s.size ≤ p by omega), one_left s p hp]
     by_cases h4 : (oneT s p).2 = 4
     · rw [if_pos h4, if_pos h4]
       exact all_left s f (p + 1) acc (by omega) (by omega)
     · rw [if_neg h4, if_neg h4]
       by_cases h0 : (oneT s p).2 = 0
       · have hk := oneT_ok s p h0
         rw [if_pos h0, if_pos h0]
         exact all_left s f _ _ (by omega) (by omega)
       · rw [if_neg h0, if_neg h0]
   · obtain rfl : p = s.size := by omega
     have b0 : bt (s ++ ends) (s.size : Int) = 9 := by
      have := bt_right s ends 0
      rw [Nat.zero_add] at this
      rw [this]; rfl
     have b1 : bt (s ++ ends) ((s.size + 1 : Nat) : Int) = 32 := by
      have := bt_right s ends 1
      rw [Nat.add_comm 1] at this
      rw [this]; rfl
     have o0 : (oneT (s ++ ends) s.size).2 = 4 := by
      unfold oneT
      rw [if_neg (by omega), b0]; rfl
     have o1 : (oneT (s ++ ends) (s.size + 1)).2 = 4 := by
      unfold oneT
      rw [if_neg (by omega), b1]; rfl
     conv => lhs; unfold allGo
     rw [if_neg (by omega), if_pos o0]
     conv => lhs; unfold allGo
     rw [if_neg (by omega), if_pos o1]
     conv => lhs; unfold allGo
     conv => rhs; unfold allGo
     rw [if_pos (show (s ++ ends).size ≤ s.size + 1 + 1 by omega), if_pos (Nat.le_refl _)]
theorem all_behind (s : ByteArray) (h : s.size + 2 ≤ 4096) : allT (s ++ ends) = allT s := by
 have hz : (s ++ ends).size = s.size + 2 := by rw [ByteArray.size_append]; rfl
 unfold allT
 rw [if_neg (by omega), if_neg (by omega), hz]
 exact all_left s (s.size + 1) 0 [] (Nat.zero_le _) (by omega)
theorem twin_behind (s : ByteArray) (T : List Tok) (hT : TokOk s T) : Twin (fun p p' => p' = p ∨ (p = s.size ∧ p' = (s.size : Int) + 2)) T s T (s ++ ends) := by
 have hz : (s ++ ends).size = s.size + 2 := by rw [ByteArray.size_append]; rfl
 have hx : ∀ n t, T[n]? = some t → tokS (s ++ ends) t = tokS s t := fun n t h => by
  have := hT.2 t (List.mem_of_getElem? h)
  exact cut_left s ends _ _ (by omega)
 refine ⟨fun n => rfl, fun n => ?_, fun n y => ?_, fun n => ?_⟩
 · unfold textT
   cases h : T[n]? with
   | none => rfl
   | some t => exact hx n t h
 · unfold isT
   cases h : T[n]? with
   | none => rfl
   | some t => show ((tokS (s ++ ends) t).toList == y.toList) = _; rw [hx n t h]
 · unfold posOf
   cases h : T[n]? with
   | none => exact .inr ⟨rfl, by show ((s ++ ends).size : Int) = _; omega⟩
   | some t => exact .inl rfl
theorem behind_law (s : ByteArray) (h : s.size + 2 ≤ 4096) :
 (ansP Clause.z id (parseP (s ++ ends))).1 = (ansP Clause.z id (parseP s)).1 ∧ (ansP Clause.z id (parseP (s ++ ends))).2.2 = (ansP Clause.z id (parseP s)).2.2 ∧
   ((ansP Clause.z id (parseP s)).2.2 ≠ 0 → (ansP Clause.z id (parseP (s ++ ends))).2.1 = (ansP Clause.z id (parseP s)).2.1 ∨ ((ansP Clause.z id (parseP s)).2.1 = s.size ∧ (ansP Clause.z id (parseP (s ++ ends))).2.1 = (s.size : Int) + 2)) := by
 have hA := all_behind s h
 refine parse_tw (ok := fun p p' => p' = p ∨ (p = s.size ∧ p' = (s.size : Int) + 2)) ?_ ?_ ?_ ?_
 · rw [hA]
   exact twin_behind s _ (allT_ok s)
 · rw [hA]
 · rw [hA]
 · intro hc
   rw [hA]
   exact .inl rfl
theorem pos_range {s : ByteArray} {T : List Tok} (hT : TokOk s T) (n : Nat) : 0 ≤ posOf T s n ∧ posOf T s n ≤ s.size := by
 unfold posOf
 cases h : T[n]? with
 | none => exact ⟨Int.natCast_nonneg _, Int.le_refl _⟩
 | some t =>
   have := hT.2 t (List.mem_of_getElem? h)
   show 0 ≤ t.lo ∧ t.lo ≤ s.size
   exact ⟨this.1, by omega⟩
theorem go_range (s : ByteArray) : ∀ (f p : Nat) (acc : List Tok), p ≤ s.size → 0 ≤ (allGo s f p acc).2.1 ∧ (allGo s f p acc).2.1 ≤ s.size
 | 0, p, acc, h => ⟨Int.le_refl 0, Int.natCast_nonneg _⟩
 | f + 1, p, acc, h => by
   unfold allGo
   split
   · exact ⟨Int.le_refl 0, Int.natCast_nonneg _⟩
   · split
     · exact go_range s f (p + 1) acc (by omega)
     · split
       · rename_i h0
         have := oneT_ok s p h0
         exact go_range s f _ _ (by omega)
       · exact ⟨Int.natCast_nonneg _, Int.ofNat_le.2 h⟩
theorem all_range (s : ByteArray) (_ : (allT s).2.2 ≠ 0) : 0 ≤ (allT s).2.1 ∧ (allT s).2.1 ≤ s.size := by
 unfold allT
 split
 · exact ⟨Int.le_refl 0, Int.natCast_nonneg _⟩
 · exact go_range s _ 0 [] (Nat.zero_le _)
end Go.Proofs.Ytdhocmakbapfpaa.M
end
section
namespace Go.Proofs.Ytdhocmakbapfpaa.M
open Go.RowKit Go.Proofs.YtdhocmakbapfpaaW.PrintWords
abbrev Tk := Int × ByteArray
def pieceX (x : ByteArray) : Prop := 0 < x.size ∧ (pieceB (bt x 0) = true ∨ (bt x 0 = 45 ∧ 1 < x.size ∧ digB (bt x 1) = true)) ∧ ∀ c ∈ (bytesOf x).drop 1, pieceB c = true
def stops (r : List Int) : Prop := ∀ c t, r = c :: t → pieceB c = false
inductive LexS : List Int → List Tk → Prop
 | nil : LexS [] []
 | blank {r : List Int} {l : List Tk} (h : LexS r l) : LexS (32 :: r) l
 | sign {r : List Int} {l : List Tk} (x : ByteArray) (hx : x ∈ sgn) (h : LexS r l) : LexS (bytesOf x ++ r) ((4, x) :: l)
 | piece {r : List Int} {l : List Tk} (x : ByteArray) (hx : pieceX x) (hk : sortK x ≠ 0) (hr : stops r) (h : LexS r l) : LexS (bytesOf x ++ r) ((sortK x, x) :: l)
theorem drop_cons {s : ByteArray} {p : Nat} {c : Int} {r : List Int} (h : (bytesOf s).drop p = c :: r) : p < s.size ∧ bt s p = c ∧ (bytesOf s).drop (p + 1) = r := by
 have hp : p < s.size := by
  rcases Nat.lt_or_ge p s.size with q | q
  · exact q
  · rw [List.drop_eq_nil_of_le (by rw [bytesOf_length]; exact q)] at h
    cases h
 rw [bytesOf_drop s p hp] at h
 injection h with h1 h2
 exact ⟨hp, h1, h2⟩
theorem drop_app {s x : ByteArray} {p : Nat} {r : List Int} (h : (bytesOf s).drop p = bytesOf x ++ r) : p + x.size ≤ s.size ∨ x.size = 0 := by
 rcases Nat.eq_zero_or_pos x.size with e | e
 · exact .inr e
 · left
   have h1 := congrArg List.length h
   rw [List.length_drop, List.length_append, bytesOf_length, bytesOf_length] at h1
   omega
theorem drop_next {s x : ByteArray} {p : Nat} {r : List Int} (h : (bytesOf s).drop p = bytesOf x ++ r) : (bytesOf s).drop (p + x.size) = r := by
 rw [← List.drop_drop, h, ← bytesOf_length x, List.drop_left]
theorem drop_cut {s x : ByteArray} {p : Nat} {r : List Int} (h : (bytesOf s).drop p = bytesOf x ++ r) : s.extract p (p + x.size) = x := by
 refine bytesOf_inj ?_
 rw [bytesOf_cut, h, ← bytesOf_length x, List.take_left]
theorem drop_bt {s x : ByteArray} {p i : Nat} {r : List Int} (h : (bytesOf s).drop p = bytesOf x ++ r) (hi : i < x.size) : bt s ((p + i : Nat) : Int) = bt x (i : Int) := by
 rw [bt_list, bt_list, List.getD_eq_getElem?_getD, List.getD_eq_getElem?_getD, ← List.getElem?_drop, h, List.getElem?_append_left (by rw [bytesOf_length]; exact hi)]
theorem pieceB_not {c : Int} (h : pieceB c = true) : (c == 32 || c == 9) = false ∧ (c == 45) = false := by
 have : (97 ≤ c ∧ c ≤ 122) ∨ (65 ≤ c ∧ c ≤ 90) ∨ (48 ≤ c ∧ c ≤ 57) ∨ c = 95 := by
  simp only [pieceB, lowB, uppB, digB, Bool.or_eq_true, Bool.and_eq_true, decide_eq_true_eq, Bool.not_eq_true', decide_eq_false_iff_not, beq_iff_eq] at h
  omega
 refine ⟨Bool.or_eq_false_iff.2 ⟨beq_false_of_ne (by omega), beq_false_of_ne (by omega)⟩, beq_false_of_ne (by omega)⟩
theorem takeWhile_all {p : Int → Bool} : ∀ (l r : List Int), (∀ c ∈ l, p c = true) → (∀ c t, r = c :: t → p c = false) → (l ++ r).takeWhile p = l
 | [], r, _, h => by
   cases r with
   | nil => rfl
   | cons c t => rw [List.nil_append, List.takeWhile_cons_of_neg (by rw [h c t rfl]; decide)]
 | c :: l, r, hl, h => by
   rw [List.cons_append, List.takeWhile_cons_of_pos (hl c (List.mem_cons_self ..)), takeWhile_all l r (fun d hd => hl d (List.mem_cons_of_mem _ hd)) h]
theorem piece_one {s x : ByteArray} {p : Nat} {r : List Int} (h : (bytesOf s).drop p = bytesOf x ++ r) (hx : pieceX x) (hk : sortK x ≠ 0) (hr : stops r) : oneT s p = (⟨sortK x, p, ((p + x.size : Nat) : Int)⟩, 0) := by
 obtain ⟨h0, hc, hall⟩ := hx
 have hle := (drop_app h).resolve_right (by omega)
 have hb0 : bt s (p : Int) = bt x 0 := drop_bt (i := 0) h h0
 have hrun : runTo s (p + 1) = p + x.size := by
  unfold runTo
  rw [← List.drop_drop, h, List.drop_append_of_le_length (by rw [bytesOf_length]; omega), takeWhile_all _ _ hall hr, List.length_drop, bytesOf_length]
  omega
 have hpc : pieceTok s p (runTo s (p + 1)) = (⟨sortK x, p, ((p + x.size : Nat) : Int)⟩, 0) := by
  unfold pieceTok
  rw [hrun, drop_cut h, if_neg hk]
 unfold oneT
 rw [if_neg (show ¬ s.size ≤ p by omega), hpc, hb0]
 rcases hc with hc | ⟨hc, h1, hd⟩
 · obtain ⟨e1, e2⟩ := pieceB_not hc
   simp only [e1, e2, hc, Bool.false_eq_true, if_false, if_true]
 · have hn : nxt s p = bt x 1 := by
    unfold nxt
    rw [if_pos (show p + 1 < s.size by omega)]
    exact drop_bt (i := 1) h h1
   rw [hc, hn, hd]
   rfl
theorem one_sgn {s x : ByteArray} {p : Nat} {r : List Int} (h : (bytesOf s).drop p = bytesOf x ++ r) (hx : x ∈ sgn) (h0 : 0 < x.size) : oneT s p = (⟨4, p, ((p + x.size : Nat) : Int)⟩, 0) := by
 have hle := (drop_app h).resolve_right (by omega)
 have := sgn_hit (s := s) (p := p) (by omega) hx (by
  unfold smatch
  rw [drop_cut h, decide_eq_true (by omega), Bool.true_and]
  exact beq_self_eq_true _)
 rw [this]
 rfl
theorem sgn_pos {x : ByteArray} (hx : x ∈ sgn) : 0 < x.size := by
 unfold sgn at hx
 simp only [List.mem_cons, List.not_mem_nil, or_false] at hx
 rcases hx with e | e | e | e | e | e | e <;> subst e <;> decide
def tkOf (s : ByteArray) (t : Tok) : Tk := (t.kind, tokS s t)
theorem lex_go {s : ByteArray} {R : List Int} {l : List Tk} (h : LexS R l) : ∀ (p f : Nat) (acc : List Tok), (bytesOf s).drop p = R → p ≤ s.size → s.size < f + p → ∃ T, allGo s f p acc = (acc ++ T, 0, 0) ∧ T.map (tkOf s) = l := by
 have step : ∀ (p f : Nat) (acc : List Tok) (x : ByteArray) (k : Int) (r : List Int) (l : List Tk), 0 < x.size → (bytesOf s).drop p = bytesOf x ++ r → oneT s p = (⟨k, p, ((p + x.size : Nat) : Int)⟩, 0) → p ≤ s.size → s.size < f + p →
  (∀ (p f : Nat) (acc : List Tok), (bytesOf s).drop p = r → p ≤ s.size → s.size < f + p → ∃ T, allGo s f p acc = (acc ++ T, 0, 0) ∧ T.map (tkOf s) = l) → ∃ T, allGo s f p acc = (acc ++ T, 0, 0) ∧ T.map (tkOf s) = (k, x) :: l := by
  intro p f acc x k r l h0 hd ho hp hf ih
  have hle := (drop_app hd).resolve_right (by omega)
  cases f with
  | zero => omega
  | succ f =>
    obtain ⟨T, h1, h2⟩ := ih (p + x.size) f (acc ++ [⟨k, p, ((p + x.size : Nat) : Int)⟩]) (drop_next hd) hle (by omega)
    refine ⟨⟨k, p, ((p + x.size : Nat) : Int)⟩ :: T, ?_, ?_⟩
    · conv => lhs; unfold allGo
      rw [if_neg (show ¬ s.size ≤ p by omega), ho]
      have e : ((p + x.size : Nat) : Int).toNat = p + x.size := by omega
      show allGo s f ((p + x.size : Nat) : Int).toNat _ = _
      rw [e, h1, List.append_assoc]
      rfl
    · rw [List.map_cons, h2]
      congr 1
      show (k, s.extract (p : Int).toNat ((p + x.size : Nat) : Int).toNat) = (k, x)
      rw [show ((p + x.size : Nat) : Int).toNat = p + x.size by omega, show (p : Int).toNat = p by omega, drop_cut hd]
 induction h with
 | nil =>
   intro p f acc hd hp hf
   have hps : s.size ≤ p := by
    have h1 := congrArg List.length hd
    rw [List.length_drop, bytesOf_length, List.length_nil] at h1
    omega
   cases f with
   | zero => omega
   | succ f =>
     refine ⟨[], ?_, rfl⟩
     unfold allGo
     rw [if_pos hps, List.append_nil]
 | @blank r l h ih =>
   intro p f acc hd hp hf
   obtain ⟨hlt, hb, hd'⟩ := drop_cons hd
   cases f with
   | zero => omega
   | succ f =>
     obtain ⟨T, h1, h2⟩ := ih (p + 1) f acc hd' hlt (by omega)
     refine ⟨T, ?_, h2⟩
     conv => lhs; unfold allGo
     rw [if_neg (show ¬ s.size ≤ p by omega), oneT_blank hlt (by rw [hb]; rfl)]
     exact h1
 | @sign r l x hx h ih =>
   intro p f acc hd hp hf
   exact step p f acc x 4 r l (sgn_pos hx) hd (one_sgn hd hx (sgn_pos hx)) hp hf ih
 | @piece r l x hx hk hr h ih =>
   intro p f acc hd hp hf
   exact step p f acc x (sortK x) r l hx.1 hd (piece_one hd hx hk hr) hp hf ih
theorem lex_all {s : ByteArray} {l : List Tk} (h : LexS (bytesOf s) l) (hs : s.size ≤ 4096) : ∃ T, allT s = (T, 0, 0) ∧ T.map (tkOf s) = l := by
 obtain ⟨T, h1, h2⟩ := lex_go h 0 (s.size + 1) [] rfl (Nat.zero_le _) (by omega)
 refine ⟨T, ?_, h2⟩
 unfold allT
 rw [if_neg (by omega), h1]
 rfl
def hdK : List Tk → Int
 | [] => 0
 | x :: _ => x.1
def hdX : List Tk → ByteArray
 | [] => noStr
 | x :: _ => x.2
def hdI (y : ByteArray) : List Tk → Bool
 | [] => false
 | x :: _ => x.2.data.toList == y.data.toList
section
variable {T : List Tok} {s : ByteArray} {n : Nat} {L : List Tk}
theorem get_drop (h : (T.map (tkOf s)).drop n = L) : T[n]?.map (tkOf s) = L.head? := by
 rw [← h, List.head?_drop, List.getElem?_map]
theorem kind_hd (h : (T.map (tkOf s)).drop n = L) : kindT T n = hdK L := by
 have := get_drop h
 unfold kindT
 cases ht : T[n]? with
 | none =>
   rw [ht] at this
   cases L with
   | nil => rfl
   | cons x r => cases this
 | some t =>
   rw [ht] at this
   cases L with
   | nil => cases this
   | cons x r =>
     have e : tkOf s t = x := by simpa using this
     rw [← e]
     rfl
theorem text_hd (h : (T.map (tkOf s)).drop n = L) : textT T s n = hdX L := by
 have := get_drop h
 unfold textT
 cases ht : T[n]? with
 | none =>
   rw [ht] at this
   cases L with
   | nil => rfl
   | cons x r => cases this
 | some t =>
   rw [ht] at this
   cases L with
   | nil => cases this
   | cons x r =>
     have e : tkOf s t = x := by simpa using this
     rw [← e]
     rfl
theorem is_hd (y : ByteArray) (h : (T.map (tkOf s)).drop n = L) : isT T s n y = hdI y L := by
 have := get_drop h
 unfold isT
 cases ht : T[n]? with
 | none =>
   rw [ht] at this
   cases L with
   | nil => rfl
   | cons x r => cases this
 | some t =>
   rw [ht] at this
   cases L with
   | nil => cases this
   | cons x r =>
     have e : tkOf s t = x := by simpa using this
     rw [← e]
     show ((tokS s t).toList == y.toList) = ((tokS s t).data.toList == y.data.toList)
     rw [toList_eq, toList_eq]
theorem drop_one {x : Tk} {r : List Tk} (h : (T.map (tkOf s)).drop n = x :: r) : (T.map (tkOf s)).drop (n + 1) = r := by
 rw [← List.drop_drop, h]
 rfl
theorem drop_many {a r : List Tk} (h : (T.map (tkOf s)).drop n = a ++ r) : (T.map (tkOf s)).drop (n + a.length) = r := by
 rw [← List.drop_drop, h, List.drop_left]
structure Reads1 (k : Int) (x : ByteArray) (t : Term) : Prop where
 kind : k = 1 ∨ k = 2 ∨ k = 3
 back : (if k == 2 then (⟨x, Val.z⟩ : Term) else ⟨noStr, (readV x).1⟩) = t
def termTok (t : Term) : Tk := (sortK (termText t), termText t)
def goodT (t : Term) : Prop := Reads1 (sortK (termText t)) (termText t) t
theorem take_hd {ks : List Int} {k : Int} {x : ByteArray} {r : List Tk} (h : (T.map (tkOf s)).drop n = (k, x) :: r) (hk : hasB ks k = true) : takeP T s ks n = .ok (x, n + 1) := by
 unfold takeP
 rw [kind_hd h, text_hd h]
 exact if_pos hk
theorem need_hd {y : ByteArray} {k : Int} {r : List Tk} (h : (T.map (tkOf s)).drop n = (k, y) :: r) : needP T s y n = .ok ((), n + 1) := by
 unfold needP
 rw [is_hd y h]
 exact if_pos (beq_self_eq_true _)
theorem term_hd {t : Term} {r : List Tk} (h : (T.map (tkOf s)).drop n = termTok t :: r) (ht : goodT t) : termP T s n = .ok (t, n + 1) := by
 unfold termP
 rw [take_hd h (by rcases ht.kind with e | e | e <;> rw [e] <;> rfl), kind_hd h]
 show Except.ok _ = _
 rw [show hdK (termTok t :: r) = sortK (termText t) from rfl, ht.back]
theorem tail_hd {α : Type} {one : Nat → PR α} {tk : α → List Tk} {fol : List Tk → Prop} (hcom : ∀ r, fol ((4, comma) :: r)) :
 ∀ (xs : List α) (m n : Nat) (r : List Tk), (∀ a ∈ xs, ∀ n r, (T.map (tkOf s)).drop n = tk a ++ r → fol r → one n = .ok (a, n + (tk a).length)) → xs.length ≤ m → (T.map (tkOf s)).drop n = xs.flatMap (fun a => (4, comma) :: tk a) ++ r → fol r → hdI comma r = false →
   tailP T s one m n = .ok (xs, n + (xs.flatMap (fun a => (4, comma) :: tk a)).length)
 | [], m, n, r, _, _, h, _, hr => by
   have hi : isT T s n comma = false := by rw [is_hd comma h]; exact hr
   cases m <;> (unfold tailP; rw [hi]; rfl)
 | a :: xs, m, n, r, h1, hm, h, hf, hr => by
   cases m with
   | zero => simp at hm
   | succ m =>
     have h : (T.map (tkOf s)).drop n = (4, comma) :: (tk a ++ (xs.flatMap (fun a => (4, comma) :: tk a) ++ r)) := by
      rw [h]
      simp
     have hi : isT T s n comma = true := by rw [is_hd comma h]; exact beq_self_eq_true _
     have hd := drop_one h
     have hfr : fol (xs.flatMap (fun a => (4, comma) :: tk a) ++ r) := by
      cases xs with
      | nil => exact hf
      | cons b bs => exact hcom _
     have ho := h1 a (List.mem_cons_self ..) (n + 1) _ hd hfr
     have ht := tail_hd hcom xs m (n + 1 + (tk a).length) r (fun b hb => h1 b (List.mem_cons_of_mem _ hb)) (by simpa using hm) (drop_many hd) hf hr
     unfold tailP
     rw [hi, ho]
     simp only [ht, if_true]
     simp only [List.flatMap_cons, List.length_append, List.length_cons]
     congr 2
     omega
theorem list_hd {α : Type} {one : Nat → PR α} {tk : α → List Tk} {fol : List Tk → Prop} (hcom : ∀ r, fol ((4, comma) :: r)) (a : α) (xs : List α) (most n : Nat) (r : List Tk)
 (h1 : ∀ b ∈ a :: xs, ∀ n r, (T.map (tkOf s)).drop n = tk b ++ r → fol r → one n = .ok (b, n + (tk b).length)) (hm : xs.length ≤ most - 1) (h : (T.map (tkOf s)).drop n = tk a ++ (xs.flatMap (fun a => (4, comma) :: tk a) ++ r)) (hf : fol r) (hr : hdI comma r = false) :
 listP T s one most n = .ok (a :: xs, n + ((tk a).length + (xs.flatMap (fun a => (4, comma) :: tk a)).length)) := by
 have hfr : fol (xs.flatMap (fun a => (4, comma) :: tk a) ++ r) := by
  cases xs with
  | nil => exact hf
  | cons b bs => exact hcom _
 have ho := h1 a (List.mem_cons_self ..) n _ h hfr
 have ht := tail_hd hcom xs (most - 1) (n + (tk a).length) r (fun b hb => h1 b (List.mem_cons_of_mem _ hb)) hm (drop_many h) hf hr
 unfold listP
 rw [ho]
 simp only [ht, addL]
 rw [Nat.add_assoc]
 rfl
def termsToks (ts : List Term) : List Tk := ts.flatMap fun t => [(4, comma), termTok t]
def atomToks (x : ByteArray) (ts : List Term) : List Tk := (1, x) :: (match ts with | [] => [] | t :: r => (4, opens) :: termTok t :: (termsToks r ++ [(4, closes)]))
theorem atom_hd {x : ByteArray} {ts : List Term} {r : List Tk} (hg : ∀ t ∈ ts, goodT t) (hl : ts.length ≤ 4) (h : (T.map (tkOf s)).drop n = atomToks x ts ++ r) (hr : hdI opens r = false) : atomP T s n = .ok ((x, ts), n + (atomToks x ts).length) := by
 unfold atomP
 cases ts with
 | nil =>
   have h : (T.map (tkOf s)).drop n = (1, x) :: r := h
   rw [take_hd h rfl]
   simp only
   rw [is_hd opens (drop_one h), hr]
   rfl
 | cons t ts =>
   have h : (T.map (tkOf s)).drop n = (1, x) :: (4, opens) :: ([termTok t] ++ (ts.flatMap (fun t => (4, comma) :: [termTok t]) ++ ((4, closes) :: r))) := by
    rw [h]
    simp [atomToks, termsToks]
   have h2 := drop_one h
   have h3 := drop_one h2
   have hL := list_hd (T := T) (s := s) (one := termP T s) (tk := fun t => [termTok t]) (fol := fun _ => True) (fun _ => trivial) t ts 4 (n + 1 + 1) ((4, closes) :: r) (fun b hb n r hd _ => term_hd hd (hg b hb)) (by simpa using hl) h3 trivial rfl
   have h4 := drop_many (a := [termTok t] ++ ts.flatMap (fun t => (4, comma) :: [termTok t])) (r := (4, closes) :: r) (by rw [h3, List.append_assoc])
   rw [take_hd h rfl]
   simp only
   rw [is_hd opens h2, show hdI opens ((4, opens) :: ([termTok t] ++ (ts.flatMap (fun t => (4, comma) :: [termTok t]) ++ ((4, closes) :: r)))) = true from beq_self_eq_true _, if_pos rfl, hL]
   simp only
   rw [List.length_append] at h4
   rw [need_hd h4]
   simp only [atomToks, termsToks, List.length_cons, List.length_append, List.length_nil]
   congr 2
   omega
def whoToks (t : Term) : List Tk := if ownT t then [] else [termTok t, (5, says)]
def saidToks (l : Lit) : List Tk := whoToks l.who ++ atomToks l.pred l.args
structure GoodS (l : Lit) : Prop where
 who : ownT l.who = true ∧ l.who = Term.z ∨ ownT l.who = false ∧ goodT l.who ∧ (sortK (termText l.who) = 1 ∨ sortK (termText l.who) = 2)
 pred : (l.pred.data.toList == nots.data.toList) = false
 args : ∀ t ∈ l.args, goodT t
 few : l.args.length ≤ 4
theorem said_hd {l : Lit} {r : List Tk} (hg : GoodS l) (h : (T.map (tkOf s)).drop n = saidToks l ++ r) (hr : hdI opens r = false) (hs : hdI says r = false) : saidP T s n = .ok ((l.who, (l.pred, l.args)), n + (saidToks l).length) := by
 unfold saidP
 rcases hg.who with ⟨hw, hz⟩ | ⟨hw, hgw, hk⟩
 · have e : saidToks l = atomToks l.pred l.args := by unfold saidToks whoToks; rw [hw]; rfl
   rw [e] at h ⊢
   have hsp : speaks T s n = false := by
    unfold speaks
    have h' : (T.map (tkOf s)).drop n = (1, l.pred) :: ((match l.args with | [] => [] | t :: r => (4, opens) :: termTok t :: (termsToks r ++ [(4, closes)])) ++ r) := h
    rw [kind_hd h', is_hd says (drop_one h')]
    cases l.args with
    | nil => simp only [List.nil_append, hs]; rfl
    | cons t ts => rfl
   rw [hsp, if_neg (by decide), atom_hd hg.args hg.few h hr]
   simp only
   rw [hz]
 · have e : saidToks l = termTok l.who :: (5, says) :: atomToks l.pred l.args := by unfold saidToks whoToks; rw [hw]; rfl
   rw [e] at h ⊢
   have h : (T.map (tkOf s)).drop n = termTok l.who :: (5, says) :: (atomToks l.pred l.args ++ r) := h
   have h2 := drop_one h
   have h3 := drop_one h2
   have hsp : speaks T s n = true := by
    unfold speaks
    rw [kind_hd h, is_hd says h2]
    show (sortK (termText l.who) == 2 || (true && sortK (termText l.who) == 1)) = true
    rcases hk with e | e <;> rw [e] <;> rfl
   rw [hsp, if_pos rfl, term_hd h hgw]
   simp only
   rw [need_hd h2]
   simp only
   rw [atom_hd hg.args hg.few h3 hr]
   simp only [List.length_cons]
   congr 2
   omega
def litToks (l : Lit) : List Tk :=
 if l.kind == 1 then saidToks l else if l.kind == 2 then (5, nots) :: saidToks l
 else match l.args with | [a, b] => [termTok a, (4, if l.kind == 3 then less else unlike), termTok b] | _ => []
def goodL (l : Lit) : Prop := (l.kind = 1 ∨ l.kind = 2) ∧ GoodS l ∨ (l.kind = 3 ∨ l.kind = 4) ∧ l.who = Term.z ∧ l.pred = noStr ∧ ∃ a b, l.args = [a, b] ∧ goodT a ∧ goodT b
def folL (r : List Tk) : Prop := ∃ k q, r = (k, comma) :: q ∨ r = (k, dot) :: q
theorem folL_no {r : List Tk} (h : folL r) : hdI opens r = false ∧ hdI says r = false ∧ hdI less r = false ∧ hdI unlike r = false := by
 obtain ⟨k, q, rfl | rfl⟩ := h <;> exact ⟨rfl, rfl, rfl, rfl⟩
theorem term_nots {t : Term} (h : goodT t) : ((termText t).data.toList == nots.data.toList) = false := by
 have hk := h.kind
 cases hq : (termText t).data.toList == nots.data.toList with
 | false => rfl
 | true =>
   have e : sortK (termText t) = 5 := by
    unfold sortK
    rw [toList_eq, show ((termText t).data.toList == [110, 111, 116]) = true from hq]
    rfl
   rw [e] at hk
   omega
theorem literal_hd {l : Lit} {r : List Tk} (hg : goodL l) (h : (T.map (tkOf s)).drop n = litToks l ++ r) (hr : folL r) : literalP T s n = .ok (l, n + (litToks l).length) := by
 obtain ⟨r1, r2, r3, r4⟩ := folL_no hr
 unfold literalP
 rcases hg with ⟨hk, hg⟩ | ⟨hk, hw, hp, a, b, hab, ha, hb⟩
 · rcases hk with hk | hk
   · have e : litToks l = saidToks l := by unfold litToks; rw [hk]; rfl
     rw [e] at h ⊢
     have hsaid := said_hd hg h r1 r2
     have hn : isT T s n nots = false ∧ compares T s n = false := by
      rcases hg.who with ⟨hw, hz⟩ | ⟨hw, hgw, hk'⟩
      · have e : saidToks l = atomToks l.pred l.args := by unfold saidToks whoToks; rw [hw]; rfl
        rw [e] at h
        have h' : (T.map (tkOf s)).drop n = (1, l.pred) :: ((match l.args with | [] => [] | t :: r => (4, opens) :: termTok t :: (termsToks r ++ [(4, closes)])) ++ r) := h
        refine ⟨by rw [is_hd nots h']; exact hg.pred, ?_⟩
        unfold compares
        rw [kind_hd h', is_hd says (drop_one h'), is_hd less (drop_one h'), is_hd unlike (drop_one h')]
        cases l.args with
        | nil => simp only [List.nil_append, r2, r3, r4]; rfl
        | cons t ts => rfl
      · have e : saidToks l = termTok l.who :: (5, says) :: atomToks l.pred l.args := by unfold saidToks whoToks; rw [hw]; rfl
        rw [e] at h
        have h : (T.map (tkOf s)).drop n = termTok l.who :: (5, says) :: (atomToks l.pred l.args ++ r) := h
        refine ⟨by rw [is_hd nots h]; exact term_nots hgw, ?_⟩
        unfold compares
        rw [kind_hd h, is_hd says (drop_one h), is_hd less (drop_one h), is_hd unlike (drop_one h)]
        show (sortK (termText l.who) == 3 || (sortK (termText l.who) == 2 && !true) || (sortK (termText l.who) == 1 && (false || false))) = false
        rcases hk' with e | e <;> rw [e] <;> rfl
     rw [hn.1, hn.2, hsaid]
     obtain ⟨k, w, p, xs⟩ := l
     have hk : k = 1 := hk
     rw [hk]
     rfl
   · have e : litToks l = (5, nots) :: saidToks l := by unfold litToks; rw [hk]; rfl
     rw [e] at h ⊢
     have h : (T.map (tkOf s)).drop n = (5, nots) :: (saidToks l ++ r) := h
     have hsaid := said_hd hg (drop_one h) r1 r2
     rw [is_hd nots h, show hdI nots ((5, nots) :: (saidToks l ++ r)) = true from beq_self_eq_true _, if_pos rfl, hsaid]
     obtain ⟨k, w, p, xs⟩ := l
     have hk : k = 2 := hk
     rw [hk]
     simp only [saidL, List.length_cons]
     congr 2
     omega
 · have hk' : (l.kind == 1) = false ∧ (l.kind == 2) = false := by rcases hk with e | e <;> rw [e] <;> exact ⟨rfl, rfl⟩
   have e : litToks l = [termTok a, (4, if l.kind == 3 then less else unlike), termTok b] := by unfold litToks; rw [hk'.1, hk'.2, hab]; rfl
   rw [e] at h ⊢
   have h : (T.map (tkOf s)).drop n = termTok a :: (4, if l.kind == 3 then less else unlike) :: termTok b :: r := h
   have h2 := drop_one h
   have h3 := drop_one h2
   have hn : isT T s n nots = false := by rw [is_hd nots h]; exact term_nots ha
   have hlu : (if l.kind == 3 then less else unlike) = less ∨ (if l.kind == 3 then less else unlike) = unlike := by
    split
    · exact .inl rfl
    · exact .inr rfl
   have hc : compares T s n = true := by
    unfold compares
    rw [kind_hd h, is_hd says h2, is_hd less h2, is_hd unlike h2]
    rw [show hdK (termTok a :: (4, if l.kind == 3 then less else unlike) :: termTok b :: r) = sortK (termText a) from rfl]
    rcases hlu with e | e <;> rw [e] <;> rcases ha.kind with e | e | e <;> rw [e] <;> rfl
   rw [hn, hc, if_neg (by decide), if_pos rfl, term_hd h ha]
   simp only
   rw [is_hd unlike h2, is_hd less h2]
   have hp2 : ∀ k : Int, pairP T s k a (n + 1) = .ok (⟨k, Term.z, noStr, [a, b]⟩, n + 1 + 1 + 1) := fun k => by
    unfold pairP
    rw [term_hd h3 hb]
   rw [hp2, hp2]
   obtain ⟨k, w, p, xs⟩ := l
   have hw : w = Term.z := hw
   have hp : p = noStr := hp
   have hab : xs = [a, b] := hab
   subst hw hp hab
   rcases hk with e | e
   · have e : k = 3 := e
     subst e
     rfl
   · have e : k = 4 := e
     subst e
     rfl
def bodyToks (ls : List Lit) : List Tk := match ls with | [] => [] | l :: r => (4, turns) :: (litToks l ++ r.flatMap fun l => (4, comma) :: litToks l)
def clauseToks (c : Clause) : List Tk := atomToks c.head.pred c.head.args ++ (bodyToks c.body ++ [(4, dot)])
structure GoodC (c : Clause) : Prop where
 kind : c.head.kind = 1
 who : c.head.who = Term.z
 args : ∀ t ∈ c.head.args, goodT t
 few : c.head.args.length ≤ 4
 lits : ∀ l ∈ c.body, goodL l
 most : c.body.length ≤ 6
theorem body_hd {ls : List Lit} {r : List Tk} (hg : ∀ l ∈ ls, goodL l) (hm : ls.length ≤ 6) (h : (T.map (tkOf s)).drop n = bodyToks ls ++ (4, dot) :: r) : bodyP T s n = .ok (ls, n + (bodyToks ls).length) := by
 unfold bodyP
 cases ls with
 | nil =>
   have h : (T.map (tkOf s)).drop n = (4, dot) :: r := h
   rw [is_hd turns h]
   rfl
 | cons l ls =>
   have h : (T.map (tkOf s)).drop n = (4, turns) :: (litToks l ++ (ls.flatMap (fun l => (4, comma) :: litToks l) ++ (4, dot) :: r)) := by
    rw [h]
    simp [bodyToks]
   have hL := list_hd (T := T) (s := s) (one := literalP T s) (tk := litToks) (fol := folL) (fun r => ⟨4, r, .inl rfl⟩) l ls 6 (n + 1) ((4, dot) :: r) (fun b hb n r hd hf => literal_hd (hg b hb) hd hf) (by simpa using hm) (drop_one h) ⟨4, r, .inr rfl⟩ rfl
   rw [is_hd turns h, show hdI turns ((4, turns) :: (litToks l ++ (ls.flatMap (fun l => (4, comma) :: litToks l) ++ (4, dot) :: r))) = true from beq_self_eq_true _, if_pos rfl, hL]
   simp only [bodyToks, List.length_cons, List.length_append]
   congr 2
   omega
theorem clause_hd {c : Clause} (hg : GoodC c) (h : T.map (tkOf s) = clauseToks c) : clauseP T s 0 = .ok (c, T.length) := by
 have hl : T.length = (clauseToks c).length := by rw [← h, List.length_map]
 have h0 : (T.map (tkOf s)).drop 0 = atomToks c.head.pred c.head.args ++ (bodyToks c.body ++ [(4, dot)]) := h
 have hop : hdI opens (bodyToks c.body ++ [(4, dot)]) = false := by cases c.body <;> rfl
 have hA := atom_hd hg.args hg.few h0 hop
 have h1 := drop_many h0
 have hB := body_hd (r := []) hg.lits hg.most h1
 have h2 := drop_many h1
 unfold clauseP
 rw [hA]
 simp only
 rw [hB]
 simp only
 rw [need_hd h2]
 simp only
 rw [hl]
 obtain ⟨⟨k, w, p, xs⟩, ls⟩ := c
 have hk : k = 1 := hg.kind
 have hw : w = Term.z := hg.who
 subst hk hw
 simp only [clauseToks, List.length_append, List.length_cons, List.length_nil]
 congr 2
 omega
end
end Go.Proofs.Ytdhocmakbapfpaa.M
end
section
namespace Go.Proofs.Ytdhocmakbapfpaa.M
open Go.RowKit Go.Proofs.YtdhocmakbapfpaaW.PrintWords
open Go.R (strOf)
theorem bytes_head {x : ByteArray} (h : 0 < x.size) : bytesOf x = bt x 0 :: (bytesOf x).drop 1 := by
 have := bytesOf_drop x 0 h
 rw [List.drop_zero] at this
 exact this
theorem bt_first {x : ByteArray} {c : Int} {t : List Int} (h : bytesOf x = c :: t) : 0 < x.size ∧ bt x 0 = c ∧ (bytesOf x).drop 1 = t := by
 have h0 : 0 < x.size := by
  rw [← bytesOf_length, h]
  exact Nat.succ_pos _
 have := bytes_head h0
 rw [h] at this
 injection this with h1 h2
 exact ⟨h0, h1.symm, by rw [h]; rfl⟩
theorem dig_piece {c : Int} (h : 48 ≤ c ∧ c ≤ 57) : pieceB c = true := by
 unfold pieceB
 rw [(digB_iff c).2 h]
 simp
theorem nameGo_all : ∀ (f : Bool) (l : List Int), nameGo f l = true → ∀ c ∈ l, pieceB c = true
 | _, [], _, c, hc => absurd hc List.not_mem_nil
 | f, d :: l, h, c, hc => by
   rw [nameGo_step, Bool.and_eq_true] at h
   rcases List.mem_cons.1 hc with rfl | hc
   · have h1 := h.1
     unfold pieceB
     simp only [Bool.or_eq_true, Bool.and_eq_true] at h1 ⊢
     rcases h1 with q | ⟨_, q | q⟩
     · exact .inl (.inl (.inl q))
     · exact .inl (.inr q)
     · exact .inr q
   · exact nameGo_all false l h.2 c hc
theorem name_good {x : ByteArray} (h : nameB x = true) : sortK x = 1 ∧ pieceX x ∧ (readV x).1 = ⟨x, 0⟩ ∧ (readV x).2 = true := by
 have h' := h
 unfold nameB at h'
 simp only [Bool.and_eq_true, Bool.not_eq_true', decide_eq_true_eq] at h'
 obtain ⟨⟨⟨⟨h1, h2⟩, h3⟩, h4⟩, h5⟩ := h'
 refine ⟨?_, ⟨h5, .inl ?_, ?_⟩, ?_, ?_⟩
 · unfold sortK
   rw [h1, h2, h]
   rfl
 · exact nameGo_all _ _ h4 _ (by rw [bytes_head h5]; exact List.mem_cons_self ..)
 · intro c hc
   exact nameGo_all _ _ h4 _ (List.mem_of_mem_drop hc)
 · unfold readV; rw [h]; rfl
 · unfold readV; rw [h]; rfl
theorem var_good {x : ByteArray} (h : varB x = true) : sortK x = 2 ∧ pieceX x := by
 unfold varB at h
 rw [bytesOf_all] at h
 simp only [Bool.and_eq_true, decide_eq_true_eq, List.all_eq_true] at h
 obtain ⟨⟨⟨h1, h2⟩, h3⟩, h4⟩ := h
 have h3 : uppB (bt x 0) = true := by rw [← byteAt_bt]; exact h3
 refine ⟨?_, h1, .inl (upp_facts h3).2.2.1, fun c hc => h4 c (List.mem_of_mem_drop hc)⟩
 have := sortK_upp h1 h3
 rw [decide_eq_true h2] at this
 exact beq_iff_eq.1 this
theorem dec_dig (m : Nat) : ∀ c ∈ decL m, 48 ≤ c ∧ c ≤ 57 := by
 intro c hc
 have := digs_dig _ _ _ (canon_l (m : Int) (by omega)).1 c (by simpa using hc)
 exact (digB_iff c).1 this
theorem dec_ne (m : Nat) : ∃ c t, decL m = c :: t := by
 rw [decL]
 split
 · exact ⟨_, _, rfl⟩
 · cases h : decL (m / 10) with
   | nil => exact ⟨_, _, rfl⟩
   | cons c t => exact ⟨_, _, rfl⟩
theorem num_of {d : ByteArray} {m : Nat} {neg : Bool} (hd : bytesOf d = decL m) (hn : neg = true → 0 < m ∧ (m : Int) ≤ 9223372036854775808) (hp : neg = false → (m : Int) < 9223372036854775808) : numOf d neg = some (if neg then -(m : Int) else m) := by
 have hl : d.size = (decL m).length := by rw [← hd, bytesOf_length]
 obtain ⟨c, t, hc⟩ := dec_ne m
 obtain ⟨h0, hb, _⟩ := bt_first (hd.trans hc)
 have hm : m < 10 ^ 19 := by
  cases neg with
  | true => have := (hn rfl).2; omega
  | false => have := hp rfl; omega
 have h19 := decL_len 18 m hm
 have hcan := canon_l (m : Int) (by omega)
 rw [Int.toNat_natCast] at hcan
 have hbad : badHead d neg = false := by
  unfold badHead
  have e1 : d.toList.isEmpty = false := by
   have := toList_ne d
   rw [decide_eq_true h0] at this
   simpa using this
  rw [e1, decide_eq_false (by omega), Bool.false_or, Bool.false_or, hb]
  cases h48 : c == 48 with
  | false => rfl
  | true =>
    have h48 : c = 48 := by simpa using h48
    cases neg with
    | true =>
      obtain ⟨c', t', e, hne⟩ := decL_head m (hn rfl).1
      rw [hc] at e
      injection e with e1 e2
      omega
    | false =>
      have hone : (decL m).length = 1 := by
       rcases hcan.2 with e | e
       · rw [e]; rfl
       · rw [hc] at e
         exact absurd (congrArg some h48) e
      rw [decide_eq_false (by omega)]
      rfl
 unfold numOf
 rw [hbad, if_neg (by decide), hd, hcan.1]
 simp only [Option.bind_some]
 unfold top63
 cases neg with
 | true => rw [if_pos rfl, if_pos (hn rfl).2, if_pos rfl]
 | false => rw [if_neg (by decide), if_pos (hp rfl), if_neg (by decide)]
theorem first_not {x : ByteArray} {c : Int} {t : List Int} (h : bytesOf x = c :: t) (hc : (48 ≤ c ∧ c ≤ 57) ∨ c = 45) : (x.toList == [110, 111, 116] || x.toList == [115, 97, 121, 115]) = false ∧ nameB x = false ∧ uppB (bt x 0) = false := by
 obtain ⟨h0, hb, _⟩ := bt_first h
 have hlow : lowB c = false := by
  unfold lowB
  rw [Bool.and_eq_false_iff]
  left
  exact decide_eq_false (by omega)
 have ne : ∀ (b : UInt8) (l : List UInt8), (b.toNat : Int) ≠ c → (x.toList == b :: l) = false := by
  intro b l hbc
  rw [beq_eq_false_iff_ne]
  intro e
  rw [toList_eq] at e
  have : bytesOf x = (b.toNat : Int) :: l.map fun b => (b.toNat : Int) := by
   unfold bytesOf
   rw [e]
   rfl
  rw [h] at this
  injection this with h1 h2
  exact hbc h1.symm
 have e1 : ((110 : UInt8).toNat : Int) = 110 := rfl
 have e2 : ((115 : UInt8).toNat : Int) = 115 := rfl
 refine ⟨?_, ?_, ?_⟩
 · rw [ne 110 _ (by rw [e1]; omega), ne 115 _ (by rw [e2]; omega)]
   rfl
 · unfold nameB
   rw [h, nameGo_step, hlow]
   simp
 · rw [hb]
   unfold uppB
   rw [Bool.and_eq_false_iff]
   left
   exact decide_eq_false (by omega)
theorem num_good {n : Int} (h : i64 n) : sortK (numText n) = 3 ∧ pieceX (numText n) ∧ (readV (numText n)).1 = ⟨noStr, n⟩ := by
 obtain ⟨h1, h2⟩ := h
 have key : ∃ c t, bytesOf (numText n) = c :: t ∧ ((48 ≤ c ∧ c ≤ 57) ∨ c = 45) ∧ (∀ d ∈ t, 48 ≤ d ∧ d ≤ 57) ∧ (c = 45 → t ≠ []) ∧ numOf (cutS (numText n)) (negB (numText n)) = some n := by
  unfold numText
  by_cases hn : n < 0
  · rw [if_pos hn]
    have hr : ∀ c ∈ (45 :: decL (-n).toNat), 0 ≤ c ∧ c < 256 := by
     intro c hc
     rcases List.mem_cons.1 hc with rfl | hc
     · omega
     · exact dec_range _ c hc
    have hb := bytesOf_strOf _ hr
    obtain ⟨h0, hb0, hd1⟩ := bt_first hb
    have hneg : negB (strOf (45 :: decL (-n).toNat)) = true := by
     unfold negB
     rw [decide_eq_true h0, hb0]
     rfl
    refine ⟨45, _, hb, .inr rfl, dec_dig _, fun _ => ?_, ?_⟩
    · obtain ⟨c, t, e⟩ := dec_ne (-n).toNat
      rw [e]
      exact List.cons_ne_nil _ _
    · have hcut : bytesOf (cutS (strOf (45 :: decL (-n).toNat))) = decL (-n).toNat := by
       unfold cutS
       rw [hneg, if_pos rfl, bytesOf_extract, List.take_of_length_le (by rw [bytesOf_length]; exact Nat.le_refl _)]
       exact hd1
      rw [hneg, num_of hcut (fun _ => by omega) (fun e => by cases e), if_pos rfl]
      congr 1
      omega
  · rw [if_neg hn]
    have hb := bytesOf_strOf _ (dec_range n.toNat)
    obtain ⟨c, t, hc⟩ := dec_ne n.toNat
    have hdig := dec_dig n.toNat
    rw [hc] at hdig
    have hc0 := hdig c (List.mem_cons_self ..)
    obtain ⟨h0, hb0, _⟩ := bt_first (hb.trans hc)
    have hneg : negB (strOf (decL n.toNat)) = false := by
     unfold negB
     rw [hb0, beq_false_of_ne (by omega), Bool.and_false]
    refine ⟨c, t, hb.trans hc, .inl hc0, fun d hd => hdig d (List.mem_cons_of_mem _ hd), fun e => by omega, ?_⟩
    have hcut : cutS (strOf (decL n.toNat)) = strOf (decL n.toNat) := by unfold cutS; rw [hneg]; rfl
    rw [hneg, hcut, num_of hb (fun e => by cases e) (fun _ => by omega), if_neg (by decide)]
    congr 1
    omega
 obtain ⟨c, t, hb, hc, ht, hne, hnum⟩ := key
 obtain ⟨h0, hb0, hd1⟩ := bt_first hb
 obtain ⟨e1, e2, e3⟩ := first_not hb hc
 have hrd : readV (numText n) = (⟨noStr, n⟩, true) := by
  unfold readV
  rw [e2, hnum]
  rfl
 refine ⟨?_, ⟨h0, ?_, fun d hd => dig_piece (ht d (by rw [← hd1]; exact hd))⟩, by rw [hrd]⟩
 · unfold sortK
   rw [e1, e2, e3, hrd, Bool.and_false, Bool.false_and]
   rfl
 · rcases hc with hc | hc
   · left
     rw [hb0]
     exact dig_piece hc
   · right
     cases t with
     | nil => exact absurd rfl (hne hc)
     | cons d t =>
       have hl : 1 < (numText n).size := by
        rw [← bytesOf_length, hb]
        exact Nat.succ_lt_succ (Nat.succ_pos _)
       refine ⟨hb0.trans hc, hl, ?_⟩
       have : bt (numText n) 1 = d := by
        have := bt_list (numText n) 1
        rw [hb] at this
        exact this
       rw [this]
       exact (digB_iff d).2 (ht d (List.mem_cons_self ..))
theorem term_good {t : Term} (hb : termB t = true) (hi : tI t) : goodT t ∧ pieceX (termText t) ∧ sortK (termText t) ≠ 0 ∧ (0 < t.var.size → sortK (termText t) = 2) ∧ (¬ 0 < t.var.size → 0 < t.val.sym.size → sortK (termText t) = 1) := by
 unfold termB at hb
 unfold termText
 obtain ⟨v, y, n⟩ := t
 simp only at hb ⊢
 by_cases hv : 0 < v.size
 · rw [if_pos hv] at hb
   simp only [Bool.and_eq_true, beq_iff_eq] at hb
   obtain ⟨h1, h2, h3⟩ := hb
   obtain ⟨hk, hx⟩ := var_good h1
   have hT : termText ⟨v, y, n⟩ = v := by unfold termText; exact if_pos hv
   rw [if_pos hv]
   refine ⟨⟨by rw [hT, hk]; omega, ?_⟩, hx, by rw [hk]; decide, fun _ => hk, fun h => absurd hv h⟩
   rw [hT, hk]
   rw [size_zero_nil h2, h3]
   rfl
 · rw [if_neg hv] at hb
   have hv0 : v = noStr := size_zero_nil (by omega)
   rw [if_neg hv]
   have hb' := hb
   unfold goodV at hb
   simp only [Bool.or_eq_true, Bool.and_eq_true, beq_iff_eq] at hb
   have hT : termText ⟨v, y, n⟩ = textB ⟨y, n⟩ := by unfold termText; exact if_neg hv
   by_cases hy : 0 < y.size
   · obtain ⟨h1, h2⟩ := hb.resolve_left (by omega)
     obtain ⟨hk, hx, hr, _⟩ := name_good h1
     have hB : textB ⟨y, n⟩ = y := by unfold textB; rw [hb', if_pos rfl]; exact if_pos hy
     rw [hB]
     refine ⟨⟨by rw [hT, hB, hk]; omega, ?_⟩, hx, by rw [hk]; decide, fun h => absurd h hv, fun _ _ => hk⟩
     rw [hT, hB, hk, hr, hv0]
     have h2 : n = 0 := h2
     rw [h2]
     rfl
   · have hB : textB ⟨y, n⟩ = numText n := by unfold textB; rw [hb', if_pos rfl]; exact if_neg hy
     obtain ⟨hk, hx, hr⟩ := num_good hi
     rw [hB]
     refine ⟨⟨by rw [hT, hB, hk]; omega, ?_⟩, hx, by rw [hk]; decide, fun h => absurd h hv, fun _ h => absurd h hy⟩
     rw [hT, hB, hk, hr, hv0]
     have : y = noStr := size_zero_nil (by omega)
     rw [this]
     rfl
theorem own_z {t : Term} (h : ownT t = true) : t = Term.z := by
 obtain ⟨v, y, n⟩ := t
 simp only [ownT, Bool.and_eq_true, beq_iff_eq] at h
 obtain ⟨⟨h1, h2⟩, h3⟩ := h
 rw [size_zero_nil h1, size_zero_nil h2, h3]
 rfl
theorem terms_good {ts : List Term} (hb : termsB ts = true) (hi : ∀ t ∈ ts, tI t) : ∀ t ∈ ts, goodT t := fun t ht => by
 unfold termsB at hb
 rw [List.all_eq_true] at hb
 exact (term_good (hb t ht) (hi t ht)).1
theorem said_good {l : Lit} (hb : saidB l = true) (hi : litI l) : GoodS l := by
 simp only [saidB, Bool.and_eq_true, decide_eq_true_eq] at hb
 obtain ⟨⟨⟨hw, hp⟩, hl⟩, ht⟩ := hb
 refine ⟨?_, ?_, terms_good ht hi.2, hl⟩
 · cases ho : ownT l.who with
   | true => exact .inl ⟨rfl, own_z ho⟩
   | false =>
     rw [ho, Bool.false_or] at hw
     simp only [Bool.and_eq_true, Bool.or_eq_true, decide_eq_true_eq] at hw
     have g := term_good hw.1 hi.1
     refine .inr ⟨rfl, g.1, ?_⟩
     by_cases hv : 0 < l.who.var.size
     · exact .inr (g.2.2.2.1 hv)
     · exact .inl (g.2.2.2.2 hv (hw.2.resolve_left hv))
 · unfold nameB at hp
   simp only [Bool.and_eq_true, Bool.not_eq_true'] at hp
   have := hp.1.1.1.1
   rw [toList_eq] at this
   exact this
theorem lit_good {l : Lit} (hb : literalB l = true) (hi : litI l) : goodL l := by
 unfold literalB at hb
 by_cases hk : (l.kind == 1 || l.kind == 2) = true
 · rw [if_pos hk] at hb
   simp only [Bool.or_eq_true, beq_iff_eq] at hk
   exact .inl ⟨hk, said_good hb hi⟩
 · rw [if_neg hk] at hb
   simp only [Bool.and_eq_true, Bool.or_eq_true, beq_iff_eq] at hb
   obtain ⟨⟨⟨⟨h1, h2⟩, h3⟩, h4⟩, h5⟩ := hb
   refine .inr ⟨h1, own_z h3, size_zero_nil h2, ?_⟩
   have hg := terms_good h5 hi.2
   match he : l.args, h4 with
   | [a, b], _ => exact ⟨a, b, rfl, hg a (by rw [he]; simp), hg b (by rw [he]; simp)⟩
theorem clause_good {c : Clause} (hb : checkB c = true) (hi : clauseI c) : GoodC c := by
 simp only [checkB, checkLitB, Bool.and_eq_true, decide_eq_true_eq, beq_iff_eq, List.all_eq_true] at hb
 obtain ⟨⟨⟨⟨h1, h2⟩, h3⟩, h4⟩, h5⟩ := hb
 have hs := said_good h2 hi.1
 exact ⟨h1, own_z h3, hs.args, hs.few, fun l hl => lit_good (h5 l hl) (hi.2 l hl), h4⟩
theorem in_comma : comma ∈ sgn := by
 unfold sgn
 simp
theorem in_closes : closes ∈ sgn := by
 unfold sgn
 simp
theorem in_opens : opens ∈ sgn := by
 unfold sgn
 simp
theorem in_less : less ∈ sgn := by
 unfold sgn
 simp
theorem in_unlike : unlike ∈ sgn := by
 unfold sgn
 simp
theorem in_dot : dot ∈ sgn := by
 unfold sgn
 simp
theorem in_turns : turns ∈ sgn := by
 unfold sgn
 simp
def tailB (ts : List Term) : List Int := ts.flatMap fun t => 44 :: 32 :: bytesOf (termText t)
def argsB (ts : List Term) : List Int := match ts with | [] => [] | t :: r => 40 :: (bytesOf (termText t) ++ (tailB r ++ [41]))
theorem argsGo_bytes : ∀ (ts : List Term) (k : Nat) (out : ByteArray), bytesOf (argsGo (k + 1) out ts) = bytesOf out ++ tailB ts
 | [], k, out => by simp [argsGo, tailB]
 | t :: ts, k, out => by
   rw [argsGo, argsGo_bytes ts (k + 1), bytesOf_append, bytesOf_append, show bytesOf ⟨#[44, 32]⟩ = [44, 32] from rfl]
   simp [tailB]
theorem lit_bytes {l : Lit} (hk : (l.kind == 3) = false ∧ (l.kind == 4) = false) : bytesOf (litText l) = (if l.kind == 2 then [110, 111, 116, 32] else []) ++ ((if ownT l.who then [] else bytesOf (termText l.who) ++ [32, 115, 97, 121, 115, 32]) ++ (bytesOf l.pred ++ argsB l.args)) := by
 unfold litText litBehind litAhead
 rw [hk.1, hk.2, if_neg (by decide), if_neg (by decide)]
 have e0 : bytesOf (if l.kind == 2 then ⟨#[110, 111, 116, 32]⟩ else (⟨#[]⟩ : ByteArray)) = if l.kind == 2 then [110, 111, 116, 32] else [] := by split <;> rfl
 have e1 : bytesOf (if ownT l.who then (if l.kind == 2 then ⟨#[110, 111, 116, 32]⟩ else (⟨#[]⟩ : ByteArray)) else (if l.kind == 2 then ⟨#[110, 111, 116, 32]⟩ else (⟨#[]⟩ : ByteArray)) ++ (termText l.who ++ ⟨#[32, 115, 97, 121, 115, 32]⟩)) =
  (if l.kind == 2 then [110, 111, 116, 32] else []) ++ (if ownT l.who then [] else bytesOf (termText l.who) ++ [32, 115, 97, 121, 115, 32]) := by
  cases ownT l.who
  · simp only [Bool.false_eq_true, if_false]
    rw [bytesOf_append, bytesOf_append, e0]
    rfl
  · simp only [if_true]
    rw [e0, List.append_nil]
 cases ha : l.args with
 | nil =>
   rw [if_neg (by simp)]
   simp only [argsGo]
   rw [bytesOf_append, e1]
   simp [argsB]
 | cons t ts =>
   rw [if_pos (by simp)]
   simp only [argsGo]
   rw [bytesOf_append, argsGo_bytes, bytesOf_append, bytesOf_append, bytesOf_append, e1]
   simp only [argsB, List.append_assoc]
   rfl
theorem stops_of {c : Int} (r : List Int) (h : pieceB c = false) : stops (c :: r) := fun d t e => by
 injection e with e1 e2
 rw [← e1]
 exact h
theorem stops_nil : stops [] := fun _ _ e => by cases e
theorem lex_term {t : Term} (hb : termB t = true) (hi : tI t) {r : List Int} {l : List Tk} (hr : stops r) (h : LexS r l) : LexS (bytesOf (termText t) ++ r) (termTok t :: l) := by
 have g := term_good hb hi
 exact .piece _ g.2.1 g.2.2.1 hr h
theorem lex_tail : ∀ {ts : List Term}, (∀ t ∈ ts, termB t = true ∧ tI t) → ∀ {r : List Int} {l : List Tk}, stops r → LexS r l → LexS (tailB ts ++ r) (termsToks ts ++ l) ∧ stops (tailB ts ++ r)
 | [], _, r, l, hr, h => ⟨h, hr⟩
 | t :: ts, ht, r, l, hr, h => by
   have ih := lex_tail (fun x hx => ht x (List.mem_cons_of_mem _ hx)) hr h
   have h0 := ht t (List.mem_cons_self ..)
   have h1 : LexS (bytesOf comma ++ (32 :: (bytesOf (termText t) ++ (tailB ts ++ r)))) ((4, comma) :: termTok t :: (termsToks ts ++ l)) := .sign comma in_comma (.blank (lex_term h0.1 h0.2 ih.2 ih.1))
   have e : tailB (t :: ts) ++ r = bytesOf comma ++ (32 :: (bytesOf (termText t) ++ (tailB ts ++ r))) := by simp [tailB, show bytesOf comma = [44] from rfl]
   have e' : termsToks (t :: ts) ++ l = (4, comma) :: termTok t :: (termsToks ts ++ l) := by simp [termsToks]
   rw [e, e']
   exact ⟨h1, stops_of _ (by decide)⟩
theorem lex_atom {x : ByteArray} {ts : List Term} (hx : nameB x = true) (ht : ∀ t ∈ ts, termB t = true ∧ tI t) {r : List Int} {l : List Tk} (hr : stops r) (h : LexS r l) : LexS (bytesOf x ++ (argsB ts ++ r)) (atomToks x ts ++ l) := by
 obtain ⟨hk, hp, _⟩ := name_good hx
 cases ts with
 | nil =>
   have := LexS.piece x hp (by rw [hk]; decide) hr h
   rw [hk] at this
   exact this
 | cons t ts =>
   have h1 : LexS (bytesOf closes ++ r) ((4, closes) :: l) := .sign closes in_closes h
   have h2 := lex_tail (fun y hy => ht y (List.mem_cons_of_mem _ hy)) (stops_of r (by decide) : stops (bytesOf closes ++ r)) h1
   have h0 := ht t (List.mem_cons_self ..)
   have h3 : LexS (bytesOf opens ++ (bytesOf (termText t) ++ (tailB ts ++ (bytesOf closes ++ r)))) _ := .sign opens in_opens (lex_term h0.1 h0.2 h2.2 h2.1)
   have := LexS.piece x hp (by rw [hk]; decide) (stops_of _ (by decide) : stops (bytesOf opens ++ (bytesOf (termText t) ++ (tailB ts ++ (bytesOf closes ++ r))))) h3
   rw [hk] at this
   have e : bytesOf x ++ (argsB (t :: ts) ++ r) = bytesOf x ++ (bytesOf opens ++ (bytesOf (termText t) ++ (tailB ts ++ (bytesOf closes ++ r)))) := by
    simp [argsB, show bytesOf opens = [40] from rfl, show bytesOf closes = [41] from rfl]
   have e' : atomToks x (t :: ts) ++ l = (1, x) :: (4, opens) :: termTok t :: (termsToks ts ++ (4, closes) :: l) := by simp [atomToks]
   rw [e, e']
   exact this
theorem says_word : sortK says = 5 ∧ pieceX says := ⟨by decide +kernel, by decide +kernel, .inl (by decide +kernel), by decide +kernel⟩
theorem nots_word : sortK nots = 5 ∧ pieceX nots := ⟨by decide +kernel, by decide +kernel, .inl (by decide +kernel), by decide +kernel⟩
theorem lex_said {l : Lit} (hb : saidB l = true) (hi : litI l) {r : List Int} {L : List Tk} (hr : stops r) (h : LexS r L) :
 LexS ((if ownT l.who then [] else bytesOf (termText l.who) ++ [32, 115, 97, 121, 115, 32]) ++ ((bytesOf l.pred ++ argsB l.args) ++ r)) (saidToks l ++ L) := by
 simp only [saidB, Bool.and_eq_true, decide_eq_true_eq] at hb
 obtain ⟨⟨⟨hw, hp⟩, hl⟩, ht⟩ := hb
 unfold termsB at ht
 rw [List.all_eq_true] at ht
 have h1 := lex_atom hp (fun t htt => ⟨ht t htt, hi.2 t htt⟩) hr h
 unfold saidToks whoToks
 cases ho : ownT l.who with
 | true =>
   rw [if_pos rfl, if_pos rfl, List.append_assoc]
   exact h1
 | false =>
   rw [ho, Bool.false_or] at hw
   simp only [Bool.and_eq_true] at hw
   rw [if_neg (by decide), if_neg (by decide)]
   have h2 : LexS (bytesOf says ++ (32 :: (bytesOf l.pred ++ (argsB l.args ++ r)))) ((sortK says, says) :: (atomToks l.pred l.args ++ L)) := .piece says says_word.2 (by rw [says_word.1]; decide) (stops_of _ (by decide)) (.blank h1)
   rw [says_word.1] at h2
   have h3 := lex_term hw.1 hi.1 (stops_of _ (by decide) : stops (32 :: (bytesOf says ++ (32 :: (bytesOf l.pred ++ (argsB l.args ++ r)))))) (.blank h2)
   have e : bytesOf (termText l.who) ++ [32, 115, 97, 121, 115, 32] ++ (bytesOf l.pred ++ argsB l.args ++ r) = bytesOf (termText l.who) ++ (32 :: (bytesOf says ++ (32 :: (bytesOf l.pred ++ (argsB l.args ++ r))))) := by
    simp [show bytesOf says = [115, 97, 121, 115] from rfl]
   rw [e]
   exact h3
theorem lex_lit {l : Lit} (hb : literalB l = true) (hi : litI l) {r : List Int} {L : List Tk} (hr : stops r) (h : LexS r L) : LexS (bytesOf (litText l) ++ r) (litToks l ++ L) := by
 unfold literalB at hb
 by_cases hk : (l.kind == 1 || l.kind == 2) = true
 · rw [if_pos hk] at hb
   have hsd := lex_said hb hi hr h
   simp only [Bool.or_eq_true, beq_iff_eq] at hk
   rw [lit_bytes (by rcases hk with e | e <;> rw [e] <;> exact ⟨rfl, rfl⟩)]
   rcases hk with e | e
   · have e1 : litToks l = saidToks l := by unfold litToks; rw [e]; rfl
     rw [e1, e]
     simpa using hsd
   · have e1 : litToks l = (5, nots) :: saidToks l := by unfold litToks; rw [e]; rfl
     rw [e1, e]
     have h2 := LexS.piece nots nots_word.2 (by rw [nots_word.1]; decide) (stops_of _ (by decide)) (LexS.blank hsd)
     rw [nots_word.1] at h2
     have e2 : bytesOf nots = [110, 111, 116] := rfl
     rw [e2] at h2
     simpa using h2
 · rw [if_neg hk] at hb
   simp only [Bool.and_eq_true, Bool.or_eq_true, beq_iff_eq] at hb
   obtain ⟨⟨⟨⟨h1, h2⟩, h3⟩, h4⟩, h5⟩ := hb
   unfold termsB at h5
   rw [List.all_eq_true] at h5
   have hkk : (l.kind == 1) = false ∧ (l.kind == 2) = false := by rcases h1 with e | e <;> rw [e] <;> exact ⟨rfl, rfl⟩
   match he : l.args, h4 with
   | [a, b], _ =>
     have ha : termB a = true ∧ tI a := ⟨h5 a (by rw [he]; simp), hi.2 a (by rw [he]; simp)⟩
     have hb : termB b = true ∧ tI b := ⟨h5 b (by rw [he]; simp), hi.2 b (by rw [he]; simp)⟩
     have hB := lex_term hb.1 hb.2 hr h
     have e1 : litToks l = [termTok a, (4, if l.kind == 3 then less else unlike), termTok b] := by unfold litToks; rw [hkk.1, hkk.2, he]; rfl
     rw [e1]
     unfold litText
     rw [he]
     rcases h1 with e | e
     · rw [e]
       have h6 : LexS (bytesOf less ++ (32 :: (bytesOf (termText b) ++ r))) _ := .sign less in_less (.blank hB)
       have h7 := lex_term ha.1 ha.2 (stops_of _ (by decide) : stops (32 :: (bytesOf less ++ (32 :: (bytesOf (termText b) ++ r))))) (.blank h6)
       have e3 : bytesOf (termText a ++ ⟨#[32, 60, 32]⟩ ++ termText b) ++ r = bytesOf (termText a) ++ (32 :: (bytesOf less ++ (32 :: (bytesOf (termText b) ++ r)))) := by
        rw [bytesOf_append, bytesOf_append, show bytesOf ⟨#[32, 60, 32]⟩ = [32, 60, 32] from rfl, show bytesOf less = [60] from rfl]
        simp
       exact e3 ▸ h7
     · rw [e]
       have h6 : LexS (bytesOf unlike ++ (32 :: (bytesOf (termText b) ++ r))) _ := .sign unlike in_unlike (.blank hB)
       have h7 := lex_term ha.1 ha.2 (stops_of _ (by decide) : stops (32 :: (bytesOf unlike ++ (32 :: (bytesOf (termText b) ++ r))))) (.blank h6)
       have e3 : bytesOf (termText a ++ ⟨#[32, 33, 61, 32]⟩ ++ termText b) ++ r = bytesOf (termText a) ++ (32 :: (bytesOf unlike ++ (32 :: (bytesOf (termText b) ++ r)))) := by
        rw [bytesOf_append, bytesOf_append, show bytesOf ⟨#[32, 33, 61, 32]⟩ = [32, 33, 61, 32] from rfl, show bytesOf unlike = [33, 61] from rfl]
        simp
       exact e3 ▸ h7
def litsB (ls : List Lit) : List Int := ls.flatMap fun l => 44 :: 32 :: bytesOf (litText l)
theorem bodyGo_bytes : ∀ (ls : List Lit) (k : Nat) (out : ByteArray), bytesOf (bodyGo (k + 1) out ls) = bytesOf out ++ litsB ls
 | [], k, out => by simp [bodyGo, litsB]
 | l :: ls, k, out => by
   rw [bodyGo, bodyGo_bytes ls (k + 1), bytesOf_append, bytesOf_append, show bytesOf ⟨#[44, 32]⟩ = [44, 32] from rfl]
   simp [litsB]
theorem lex_lits : ∀ {ls : List Lit}, (∀ l ∈ ls, literalB l = true ∧ litI l) → ∀ {r : List Int} {L : List Tk}, stops r → LexS r L → LexS (litsB ls ++ r) (ls.flatMap (fun l => (4, comma) :: litToks l) ++ L) ∧ stops (litsB ls ++ r)
 | [], _, r, L, hr, h => ⟨h, hr⟩
 | l :: ls, ht, r, L, hr, h => by
   have ih := lex_lits (fun x hx => ht x (List.mem_cons_of_mem _ hx)) hr h
   have h0 := ht l (List.mem_cons_self ..)
   have h1 : LexS (bytesOf comma ++ (32 :: (bytesOf (litText l) ++ (litsB ls ++ r)))) _ := .sign comma in_comma (.blank (lex_lit h0.1 h0.2 ih.2 ih.1))
   have e : litsB (l :: ls) ++ r = bytesOf comma ++ (32 :: (bytesOf (litText l) ++ (litsB ls ++ r))) := by simp [litsB, show bytesOf comma = [44] from rfl]
   have e' : (l :: ls).flatMap (fun l => (4, comma) :: litToks l) ++ L = (4, comma) :: (litToks l ++ (ls.flatMap (fun l => (4, comma) :: litToks l) ++ L)) := by simp
   rw [e, e']
   exact ⟨h1, stops_of _ (by decide)⟩
theorem lex_clause {c : Clause} (hb : checkB c = true) (hi : clauseI c) : LexS (bytesOf (clauseText c)) (clauseToks c) := by
 simp only [checkB, checkLitB, Bool.and_eq_true, decide_eq_true_eq, beq_iff_eq, List.all_eq_true] at hb
 obtain ⟨⟨⟨⟨h1, h2⟩, h3⟩, h4⟩, h5⟩ := hb
 have hdot : LexS (bytesOf dot ++ []) [(4, dot)] := .sign dot in_dot .nil
 have hd : bytesOf dot = [46] := rfl
 have hbody : ∃ r, bytesOf (clauseText c) = bytesOf (litText c.head) ++ r ∧ LexS r (bodyToks c.body ++ [(4, dot)]) ∧ stops r := by
  unfold clauseText
  cases hls : c.body with
  | nil =>
    refine ⟨bytesOf dot ++ [], ?_, hdot, stops_of [] (by decide)⟩
    rw [bytesOf_append, List.append_nil]
    rfl
  | cons l ls =>
    rw [hls] at h5
    have hiL : ∀ x ∈ l :: ls, litI x := fun x hx => hi.2 x (by rw [hls]; exact hx)
    have h6 := lex_lits (fun x hx => ⟨h5 x (List.mem_cons_of_mem _ hx), hiL x (List.mem_cons_of_mem _ hx)⟩) (stops_of [] (by decide) : stops (bytesOf dot ++ [])) hdot
    have h7 := lex_lit (h5 l (List.mem_cons_self ..)) (hiL l (List.mem_cons_self ..)) h6.2 h6.1
    have h8 : LexS (32 :: (bytesOf turns ++ (32 :: (bytesOf (litText l) ++ (litsB ls ++ (bytesOf dot ++ [])))))) _ := .blank (.sign turns in_turns (.blank h7))
    refine ⟨32 :: (bytesOf turns ++ (32 :: (bytesOf (litText l) ++ (litsB ls ++ (bytesOf dot ++ []))))), ?_, ?_, stops_of _ (by decide)⟩
    · rw [bytesOf_append, bodyGo, bodyGo_bytes, bytesOf_append, bytesOf_append, show bytesOf ⟨#[32, 58, 45, 32]⟩ = [32, 58, 45, 32] from rfl, show bytesOf turns = [58, 45] from rfl, show bytesOf ⟨#[46]⟩ = [46] from rfl]
      simp
    · have e : bodyToks (l :: ls) ++ [(4, dot)] = (4, turns) :: (litToks l ++ (ls.flatMap (fun l => (4, comma) :: litToks l) ++ [(4, dot)])) := by simp [bodyToks]
      rw [e]
      exact h8
 obtain ⟨r, hr, hl, hst⟩ := hbody
 rw [hr]
 have hlit : literalB c.head = true := by unfold literalB; rw [h1]; exact h2
 have := lex_lit hlit hi.1 hst hl
 have e : litToks c.head = atomToks c.head.pred c.head.args := by
  unfold litToks
  rw [h1]
  unfold saidToks whoToks
  rw [h3]
  rfl
 rw [e] at this
 exact this
theorem bodyGo_size : ∀ (ls : List Lit) (k : Nat) (out : ByteArray), (∀ l ∈ ls, (litText l).size ≤ 200) → (bodyGo k out ls).size ≤ out.size + 204 * ls.length
 | [], k, out, _ => by cases k <;> simp [bodyGo]
 | l :: ls, k, out, h => by
   have h0 := h l (List.mem_cons_self ..)
   have g1 : (⟨#[32, 58, 45, 32]⟩ : ByteArray).size = 4 := rfl
   have g2 : (⟨#[44, 32]⟩ : ByteArray).size = 2 := rfl
   cases k with
   | zero =>
     have := bodyGo_size ls 1 (out ++ ⟨#[32, 58, 45, 32]⟩ ++ litText l) (fun x hx => h x (List.mem_cons_of_mem _ hx))
     simp only [ByteArray.size_append, g1] at this
     simp only [bodyGo, List.length_cons]
     omega
   | succ k =>
     have := bodyGo_size ls (k + 2) (out ++ ⟨#[44, 32]⟩ ++ litText l) (fun x hx => h x (List.mem_cons_of_mem _ hx))
     simp only [ByteArray.size_append, g2] at this
     simp only [bodyGo, List.length_cons]
     omega
theorem clauseText_size {c : Clause} (hb : checkB c = true) (hi : clauseI c) : (clauseText c).size ≤ 4096 := by
 simp only [checkB, checkLitB, Bool.and_eq_true, decide_eq_true_eq, beq_iff_eq, List.all_eq_true] at hb
 obtain ⟨⟨⟨⟨h1, h2⟩, h3⟩, h4⟩, h5⟩ := hb
 have hlit : literalB c.head = true := by unfold literalB; rw [h1]; exact h2
 have hh := litText_size hi.1 hlit
 have := bodyGo_size c.body 0 (litText c.head) (fun l hl => litText_size (hi.2 l hl) (h5 l hl))
 unfold clauseText
 rw [ByteArray.size_append, show (⟨#[46]⟩ : ByteArray).size = 1 from rfl]
 omega
theorem back_clause {c : Clause} (hb : checkB c = true) (hi : clauseI c) : parseP (clauseText c) = .ok c := by
 have hL := lex_clause hb hi
 have hg := clause_good hb hi
 obtain ⟨T, h1, h2⟩ := lex_all hL (clauseText_size hb hi)
 unfold parseP runP
 rw [h1]
 simp only [bne_self_eq_false, Bool.false_eq_true, if_false]
 rw [clause_hd hg h2]
 simp
theorem back_lit {l : Lit} (hb : checkLitB l = true) (hi : litI l) : parseLitP (litText l) = .ok (l.who, (l.pred, l.args)) := by
 simp only [checkLitB, Bool.and_eq_true, beq_iff_eq] at hb
 have hlit : literalB l = true := by unfold literalB; rw [hb.1]; exact hb.2
 have hL := lex_lit hlit hi stops_nil .nil
 have e : litToks l = saidToks l := by unfold litToks; rw [hb.1]; rfl
 rw [List.append_nil, List.append_nil, e] at hL
 have hg := said_good hb.2 hi
 have hsz := litText_size hi hlit
 obtain ⟨T, h1, h2⟩ := lex_all hL (by omega)
 have hs := said_hd (T := T) (s := litText l) (n := 0) (r := []) hg (by rw [List.drop_zero, h2, List.append_nil]) rfl rfl
 unfold parseLitP runP
 rw [h1]
 simp only [bne_self_eq_false, Bool.false_eq_true, if_false]
 rw [hs]
 have hl : T.length = (saidToks l).length := by rw [← h2, List.length_map]
 simp [hl]
end Go.Proofs.Ytdhocmakbapfpaa.M
end
section
namespace Go.Proofs.Ytdhocmakbapfpaa.M
open Go.RowKit Go.Proofs.YtdhocmakbapfpaaW.PrintWords
theorem sortK_one {x : ByteArray} (h : sortK x = 1) : nameB x = true := by
 unfold sortK at h
 split at h
 · cases h
 · split at h
   · assumption
   · split at h
     · cases h
     · split at h <;> cases h
theorem sortK_two' {x : ByteArray} (h : sortK x = 2) : x.size ≤ 16 := by
 unfold sortK at h
 split at h
 · cases h
 · split at h
   · cases h
   · split at h
     · rename_i hq
       simp only [Bool.and_eq_true, decide_eq_true_eq] at hq
       omega
     · split at h <;> cases h
theorem sortK_three {x : ByteArray} (h : sortK x = 3) : nameB x = false ∧ (readV x).2 = true := by
 unfold sortK at h
 split at h
 · cases h
 · split at h
   · cases h
   · rename_i hn
     split at h
     · cases h
     · split at h
       · rename_i hr
         exact ⟨by simpa using hn, hr⟩
       · cases h
theorem z64 : i64 0 := ⟨by decide, by decide⟩
theorem numOf_range {d : ByteArray} {neg : Bool} {n : Int} (h : numOf d neg = some n) : i64 n := by
 unfold numOf at h
 split at h
 · cases h
 · cases hd : digs 0 (bytesOf d) with
   | none => rw [hd] at h; cases h
   | some u =>
     have h0 := digs_ge _ _ _ (Int.le_refl 0) hd
     rw [hd] at h
     simp only [Option.bind_some] at h
     unfold top63 at h
     split at h
     · split at h
       · cases h
         exact ⟨by omega, by omega⟩
       · cases h
     · split at h
       · cases h
         exact ⟨by omega, by omega⟩
       · cases h
theorem read_good {x : ByteArray} (h : (readV x).2 = true) : goodV (readV x).1 = true ∧ i64 (readV x).1.num := by
 unfold readV at h ⊢
 cases hn : nameB x with
 | true =>
   refine ⟨?_, z64⟩
   show (x.size == 0 || (nameB x && true)) = true
   rw [hn]
   simp
 | false =>
   rw [hn] at h
   simp only [Bool.false_eq_true, if_false] at h ⊢
   cases hq : numOf (cutS x) (negB x) with
   | none => rw [hq] at h; cases h
   | some n => exact ⟨rfl, numOf_range hq⟩
def tokGood (s : ByteArray) (t : Tok) : Prop := (t.kind = 1 → nameB (tokS s t) = true) ∧ (t.kind = 2 → varB (tokS s t) = true) ∧ (t.kind = 3 → (readV (tokS s t)).2 = true)
theorem takeWhile_take {p : Int → Bool} : ∀ l : List Int, l.take (l.takeWhile p).length = l.takeWhile p
 | [] => rfl
 | c :: l => by
   by_cases h : p c = true
   · rw [List.takeWhile_cons_of_pos h, List.length_cons, List.take_succ_cons, takeWhile_take l]
   · rw [List.takeWhile_cons_of_neg h]
     rfl
theorem takeWhile_mem {p : Int → Bool} : ∀ (l : List Int), ∀ c ∈ l.takeWhile p, p c = true
 | [], c, h => absurd h List.not_mem_nil
 | d :: l, c, h => by
   by_cases hd : p d = true
   · rw [List.takeWhile_cons_of_pos hd] at h
     rcases List.mem_cons.1 h with rfl | h
     · exact hd
     · exact takeWhile_mem l c h
   · rw [List.takeWhile_cons_of_neg hd] at h
     cases h
theorem piece_bytes (s : ByteArray) (p : Nat) (hp : p < s.size) : bytesOf (s.extract p (runTo s (p + 1))) = bt s p :: ((bytesOf s).drop (p + 1)).takeWhile pieceB := by
 have e : runTo s (p + 1) = p + ((((bytesOf s).drop (p + 1)).takeWhile pieceB).length + 1) := by unfold runTo; omega
 rw [e, bytesOf_cut, bytesOf_drop s p hp, List.take_succ_cons, takeWhile_take]
theorem piece_tok (s : ByteArray) (p : Nat) (hp : p < s.size) (h : (pieceTok s p (runTo s (p + 1))).2 = 0) : tokGood s (pieceTok s p (runTo s (p + 1))).1 := by
 unfold pieceTok at h ⊢
 by_cases hk : sortK (s.extract p (runTo s (p + 1))) = 0
 · rw [if_pos hk] at h
   cases h
 · rw [if_neg hk]
   have ht : tokS s ⟨sortK (s.extract p (runTo s (p + 1))), p, (runTo s (p + 1) : Nat)⟩ = s.extract p (runTo s (p + 1)) := by
    unfold tokS
    show s.extract (p : Int).toNat ((runTo s (p + 1) : Nat) : Int).toNat = _
    rw [show (p : Int).toNat = p by omega, show ((runTo s (p + 1) : Nat) : Int).toNat = runTo s (p + 1) by omega]
   unfold tokGood
   rw [ht]
   refine ⟨fun e => sortK_one e, fun e => ?_, fun e => (sortK_three e).2⟩
   obtain ⟨hu, h0⟩ := sortK_two e
   have h16 := sortK_two' e
   have hb := piece_bytes s p hp
   obtain ⟨_, hb0, _⟩ := bt_first hb
   unfold varB
   rw [bytesOf_all, decide_eq_true h0, decide_eq_true h16, byteAt_bt]
   have hu' : uppB (bt (s.extract p (runTo s (p + 1))) ((0 : Nat) : Int)) = true := hu
   simp only [Bool.true_and, Bool.and_eq_true, List.all_eq_true]
   refine ⟨hu, fun c hc => ?_⟩
   rw [hb] at hc
   rcases List.mem_cons.1 hc with rfl | hc
   · rw [hb0] at hu
     exact (upp_facts hu).2.2.1
   · exact takeWhile_mem _ c hc
theorem sign_tok (s : ByteArray) (lo hi : Int) : tokGood s ⟨4, lo, hi⟩ :=
 ⟨fun e => absurd (show (4 : Int) = 1 from e) (by decide), fun e => absurd (show (4 : Int) = 2 from e) (by decide), fun e => absurd (show (4 : Int) = 3 from e) (by decide)⟩
theorem one_good (s : ByteArray) (p : Nat) (h : (oneT s p).2 = 0) : tokGood s (oneT s p).1 := by
 unfold oneT at h ⊢
 by_cases hp : s.size ≤ p
 · rw [if_pos hp] at h; cases h
 rw [if_neg hp] at h ⊢
 have piece := piece_tok s p (by omega)
 simp only at h ⊢
 split at h
 · cases h
 rename_i c1; rw [if_neg c1]
 split at h
 · rename_i c2; rw [if_pos c2]
   split at h
   · rename_i c3; rw [if_pos c3]; exact piece h
   · cases h
 rename_i c2; rw [if_neg c2]
 split at h
 · rename_i c3; rw [if_pos c3]; exact piece h
 rename_i c3; rw [if_neg c3]
 split at h
 · rename_i c4; rw [if_pos c4]; exact sign_tok s _ _
 rename_i c4; rw [if_neg c4]
 split at h
 · rename_i c5; rw [if_pos c5]; exact sign_tok s _ _
 · cases h
theorem go_good (s : ByteArray) : ∀ (f p : Nat) (acc : List Tok), (∀ t ∈ acc, tokGood s t) → ∀ t ∈ (allGo s f p acc).1, tokGood s t
 | 0, p, acc, h => fun t ht => absurd ht List.not_mem_nil
 | f + 1, p, acc, h => by
   unfold allGo
   split
   · exact h
   · split
     · exact go_good s f _ _ h
     · split
       · rename_i h0
         refine go_good s f _ _ fun t ht => ?_
         rcases List.mem_append.1 ht with ht | ht
         · exact h t ht
         · rw [List.mem_singleton.1 ht]
           exact one_good s p h0
       · exact fun t ht => absurd ht List.not_mem_nil
theorem all_good (s : ByteArray) : ∀ t ∈ (allT s).1, tokGood s t := by
 unfold allT
 split
 · exact fun t ht => absurd ht List.not_mem_nil
 · exact go_good s _ 0 [] (fun t ht => absurd ht List.not_mem_nil)
def GT (t : Term) : Prop := termB t = true ∧ tI t ∧ t.var.size ≤ 16
def GL (l : Lit) : Prop := literalB l = true ∧ litI l ∧ l.who.var.size ≤ 16 ∧ ∀ t ∈ l.args, t.var.size ≤ 16
section
variable {T : List Tok} {s : ByteArray}
theorem at_good (hT : ∀ t ∈ T, tokGood s t) (n : Nat) : (kindT T n = 1 → nameB (textT T s n) = true) ∧ (kindT T n = 2 → varB (textT T s n) = true) ∧ (kindT T n = 3 → (readV (textT T s n)).2 = true) := by
 unfold kindT textT
 cases h : T[n]? with
 | none => exact ⟨fun e => absurd (show (0 : Int) = 1 from e) (by decide), fun e => absurd (show (0 : Int) = 2 from e) (by decide), fun e => absurd (show (0 : Int) = 3 from e) (by decide)⟩
 | some t => exact hT t (List.mem_of_getElem? h)
theorem take_ok {ks : List Int} {n m : Nat} {x : ByteArray} (h : takeP T s ks n = .ok (x, m)) : hasB ks (kindT T n) = true ∧ x = textT T s n := by
 unfold takeP at h
 split at h
 · rename_i hk
   cases h
   exact ⟨hk, rfl⟩
 · cases h
theorem term_ok' (hT : ∀ t ∈ T, tokGood s t) {n m : Nat} {t : Term} (h : termP T s n = .ok (t, m)) : GT t ∧ (kindT T n = 2 → 0 < t.var.size) ∧ (kindT T n = 1 → 0 < t.val.sym.size) := by
 unfold termP at h
 cases ht : takeP T s [1, 2, 3] n with
 | error p => rw [ht] at h; cases h
 | ok q =>
   obtain ⟨x, j⟩ := q
   obtain ⟨hk, hx⟩ := take_ok ht
   obtain ⟨g1, g2, g3⟩ := at_good (s := s) hT n
   rw [ht] at h
   simp only [Except.ok.injEq, Prod.mk.injEq] at h
   obtain ⟨h, _⟩ := h
   have hk3 : kindT T n = 1 ∨ kindT T n = 2 ∨ kindT T n = 3 := by
    unfold hasB at hk
    simpa using hk
   rw [← hx] at g1 g2 g3
   rcases hk3 with e | e | e
   · have hn := g1 e
     obtain ⟨_, hp, hr, hr2⟩ := name_good hn
     rw [e] at h
     have h : (⟨noStr, (readV x).1⟩ : Term) = t := h
     rw [← h]
     refine ⟨⟨?_, (read_good hr2).2, Nat.zero_le _⟩, fun e' => (by rw [e] at e'; cases e'), fun _ => (by rw [hr]; exact hp.1)⟩
     exact (read_good hr2).1
   · have hv := g2 e
     rw [e] at h
     have h : (⟨x, Val.z⟩ : Term) = t := h
     have hv' := hv
     unfold varB at hv'
     simp only [Bool.and_eq_true, decide_eq_true_eq] at hv'
     rw [← h]
     refine ⟨⟨?_, z64, hv'.1.1.2⟩, fun _ => hv'.1.1.1, fun e' => (by rw [e] at e'; cases e')⟩
     unfold termB
     rw [if_pos hv'.1.1.1, hv]
     rfl
   · have hr2 := g3 e
     rw [e] at h
     have h : (⟨noStr, (readV x).1⟩ : Term) = t := h
     rw [← h]
     exact ⟨⟨(read_good hr2).1, (read_good hr2).2, Nat.zero_le _⟩, fun e' => (by rw [e] at e'; cases e'), fun e' => (by rw [e] at e'; cases e')⟩
theorem atom_ok' (hT : ∀ t ∈ T, tokGood s t) {n i : Nat} {x : ByteArray} {ts : List Term} (h : atomP T s n = .ok ((x, ts), i)) : nameB x = true ∧ ts.length ≤ 4 ∧ ∀ t ∈ ts, GT t := by
 have hsm := atom_small h
 unfold atomP at h
 cases ht : takeP T s [1] n with
 | error p => rw [ht] at h; cases h
 | ok q =>
   obtain ⟨y, j⟩ := q
   obtain ⟨hk, hx⟩ := take_ok ht
   have hk1 : kindT T n = 1 := by
    unfold hasB at hk
    simpa using hk
   have hn := (at_good (s := s) hT n).1 hk1
   rw [← hx] at hn
   rw [ht] at h
   simp only at h
   split at h
   · cases hl : listP T s (termP T s) 4 (j + 1) with
     | error p => rw [hl] at h; cases h
     | ok q =>
       obtain ⟨us, k⟩ := q
       rw [hl] at h
       simp only at h
       cases hc : needP T s closes k with
       | error p => rw [hc] at h; cases h
       | ok q =>
         rw [hc] at h
         simp only [Except.ok.injEq, Prod.mk.injEq] at h
         obtain ⟨⟨rfl, rfl⟩, _⟩ := h
         refine ⟨hn, hsm, fun t htt => ?_⟩
         obtain ⟨_, _, ho⟩ := (list_small (by decide) hl).2 t htt
         exact (term_ok' hT ho).1
   · simp only [Except.ok.injEq, Prod.mk.injEq] at h
     obtain ⟨⟨rfl, rfl⟩, _⟩ := h
     exact ⟨hn, Nat.zero_le _, fun t htt => absurd htt List.not_mem_nil⟩
theorem said_ok' (hT : ∀ t ∈ T, tokGood s t) {n i : Nat} {r : Term × (ByteArray × List Term)} (h : saidP T s n = .ok (r, i)) : (∀ k : Int, saidB ⟨k, r.1, r.2.1, r.2.2⟩ = true) ∧ tI r.1 ∧ r.1.var.size ≤ 16 ∧ ∀ t ∈ r.2.2, GT t := by
 have atomS : ∀ {who : Term} {x : ByteArray} {ts : List Term}, (ownT who || termB who && (decide (0 < who.var.size) || decide (0 < who.val.sym.size))) = true → nameB x = true → ts.length ≤ 4 → (∀ t ∈ ts, GT t) → ∀ k : Int, saidB ⟨k, who, x, ts⟩ = true := by
  intro who x ts hw hx hl ht k
  unfold saidB termsB
  simp only
  rw [hw, hx, decide_eq_true hl]
  simp only [Bool.true_and, List.all_eq_true]
  exact fun t htt => (ht t htt).1
 unfold saidP at h
 split at h
 · rename_i hsp
   cases ht : termP T s n with
   | error p => rw [ht] at h; cases h
   | ok q =>
     obtain ⟨who, m⟩ := q
     obtain ⟨⟨g1, g2, g3⟩, k2, k1⟩ := term_ok' hT ht
     rw [ht] at h
     simp only at h
     cases hc : needP T s says m with
     | error p => rw [hc] at h; cases h
     | ok q =>
       rw [hc] at h
       simp only at h
       cases ha : atomP T s q.2 with
       | error p => rw [ha] at h; cases h
       | ok a =>
         obtain ⟨⟨x, ts⟩, j⟩ := a
         rw [ha] at h
         simp only [Except.ok.injEq, Prod.mk.injEq] at h
         obtain ⟨rfl, _⟩ := h
         obtain ⟨a1, a2, a3⟩ := atom_ok' hT ha
         refine ⟨atomS ?_ a1 a2 a3, g2, g3, a3⟩
         rw [g1]
         unfold speaks at hsp
         simp only [Bool.or_eq_true, Bool.and_eq_true, beq_iff_eq] at hsp
         simp only [Bool.true_and, Bool.or_eq_true, decide_eq_true_eq]
         rcases hsp with e | ⟨_, e⟩
         · exact .inr (.inl (k2 e))
         · exact .inr (.inr (k1 e))
 · cases ha : atomP T s n with
   | error p => rw [ha] at h; cases h
   | ok a =>
     obtain ⟨⟨x, ts⟩, j⟩ := a
     rw [ha] at h
     simp only [Except.ok.injEq, Prod.mk.injEq] at h
     obtain ⟨rfl, _⟩ := h
     obtain ⟨a1, a2, a3⟩ := atom_ok' hT ha
     exact ⟨atomS rfl a1 a2 a3, z64, Nat.zero_le _, a3⟩
theorem saidL_ok' (hT : ∀ t ∈ T, tokGood s t) {k : Int} (hk : k = 1 ∨ k = 2) {n i : Nat} {l : Lit} (h : saidL k (saidP T s n) = .ok (l, i)) : GL l := by
 cases hs : saidP T s n with
 | error p => rw [hs] at h; cases h
 | ok q =>
   obtain ⟨⟨who, x, ts⟩, j⟩ := q
   obtain ⟨h1, h2, h3, h4⟩ := said_ok' hT hs
   rw [hs] at h
   have h : Except.ok ((⟨k, who, x, ts⟩ : Lit), j) = Except.ok (l, i) := h
   simp only [Except.ok.injEq, Prod.mk.injEq] at h
   obtain ⟨rfl, _⟩ := h
   refine ⟨?_, ⟨h2, fun t ht => (h4 t ht).2.1⟩, h3, fun t ht => (h4 t ht).2.2⟩
   unfold literalB
   rcases hk with e | e <;> subst e <;> exact h1 _
theorem pair_ok' (hT : ∀ t ∈ T, tokGood s t) {k : Int} (hk : k = 3 ∨ k = 4) {a : Term} (ha : GT a) {m i : Nat} {l : Lit} (h : pairP T s k a m = .ok (l, i)) : GL l := by
 unfold pairP at h
 cases ht : termP T s (m + 1) with
 | error p => rw [ht] at h; cases h
 | ok q =>
   obtain ⟨c, j⟩ := q
   obtain ⟨hc, _⟩ := term_ok' hT ht
   rw [ht] at h
   simp only [Except.ok.injEq, Prod.mk.injEq] at h
   obtain ⟨rfl, _⟩ := h
   have two : ∀ t ∈ [a, c], GT t := by
    intro t ht
    simp only [List.mem_cons, List.not_mem_nil, or_false] at ht
    rcases ht with rfl | rfl
    · exact ha
    · exact hc
   refine ⟨?_, ⟨z64, fun t ht => (two t ht).2.1⟩, Nat.zero_le _, fun t ht => (two t ht).2.2⟩
   have e : termsB [a, c] = true := by
    unfold termsB
    rw [List.all_eq_true]
    exact fun t ht => (two t ht).1
   unfold literalB
   simp only
   rw [e]
   rcases hk with e | e <;> subst e <;> rfl
theorem literal_ok' (hT : ∀ t ∈ T, tokGood s t) {n i : Nat} {l : Lit} (h : literalP T s n = .ok (l, i)) : GL l := by
 unfold literalP at h
 split at h
 · exact saidL_ok' hT (.inr rfl) h
 · split at h
   · cases ht : termP T s n with
     | error p => rw [ht] at h; cases h
     | ok q =>
       obtain ⟨a, m⟩ := q
       have ha := (term_ok' hT ht).1
       rw [ht] at h
       simp only at h
       split at h
       · exact pair_ok' hT (.inr rfl) ha h
       · split at h
         · exact pair_ok' hT (.inl rfl) ha h
         · cases h
   · exact saidL_ok' hT (.inl rfl) h
theorem clause_ok' (hT : ∀ t ∈ T, tokGood s t) {n i : Nat} {c : Clause} (h : clauseP T s n = .ok (c, i)) : checkB c = true ∧ clauseI c ∧ GL c.head ∧ ∀ l ∈ c.body, GL l := by
 have hsm := clause_small h
 unfold clauseP at h
 cases ha : atomP T s n with
 | error p => rw [ha] at h; cases h
 | ok q =>
   obtain ⟨⟨x, ts⟩, m⟩ := q
   obtain ⟨a1, a2, a3⟩ := atom_ok' hT ha
   rw [ha] at h
   simp only at h
   cases hb : bodyP T s m with
   | error p => rw [hb] at h; cases h
   | ok q =>
     obtain ⟨ls, j⟩ := q
     rw [hb] at h
     simp only at h
     cases hn : needP T s dot j with
     | error p => rw [hn] at h; cases h
     | ok q =>
       rw [hn] at h
       simp only [Except.ok.injEq, Prod.mk.injEq] at h
       obtain ⟨rfl, _⟩ := h
       have hls : ∀ l ∈ ls, GL l := by
        unfold bodyP at hb
        split at hb
        · intro l hl
          obtain ⟨_, _, ho⟩ := (list_small (by decide) hb).2 l hl
          exact literal_ok' hT ho
        · cases hb
          exact fun l hl => absurd hl List.not_mem_nil
       have hsd : saidB ⟨1, Term.z, x, ts⟩ = true := by
        unfold saidB termsB
        simp only
        rw [a1, decide_eq_true a2]
        have : ts.all termB = true := by
         rw [List.all_eq_true]
         exact fun t ht => (a3 t ht).1
        rw [this]
        rfl
       have hhead : GL ⟨1, Term.z, x, ts⟩ := ⟨hsd, ⟨z64, fun t ht => (a3 t ht).2.1⟩, Nat.zero_le _, fun t ht => (a3 t ht).2.2⟩
       refine ⟨?_, ⟨hhead.2.1, fun l hl => (hls l hl).2.1⟩, hhead, hls⟩
       unfold checkB checkLitB
       simp only
       rw [hsd, decide_eq_true hsm.1]
       have : ls.all literalB = true := by
        rw [List.all_eq_true]
        exact fun l hl => (hls l hl).1
       rw [this]
       rfl
end
theorem parse_ok' {s : ByteArray} {c : Clause} (h : parseP s = .ok c) : checkB c = true ∧ clauseI c ∧ GL c.head ∧ ∀ l ∈ c.body, GL l := by
 unfold parseP runP at h
 split at h
 · cases h
 · simp only at h
   cases ho : clauseP (allT s).1 s 0 with
   | error p => rw [ho] at h; cases h
   | ok q =>
     obtain ⟨a, n⟩ := q
     rw [ho] at h
     simp only at h
     split at h
     · cases h
     · cases h
       exact clause_ok' (all_good s) ho
theorem parseLit_ok' {s : ByteArray} {r : Term × (ByteArray × List Term)} (h : parseLitP s = .ok r) : checkLitB (litOf r) = true ∧ GL (litOf r) := by
 unfold parseLitP runP at h
 split at h
 · cases h
 · simp only at h
   cases ho : saidP (allT s).1 s 0 with
   | error p => rw [ho] at h; cases h
   | ok q =>
     obtain ⟨a, n⟩ := q
     rw [ho] at h
     simp only at h
     split at h
     · cases h
     · cases h
       obtain ⟨h1, h2, h3, h4⟩ := said_ok' (all_good s) ho
       have hs : saidB (litOf r) = true := h1 1
       refine ⟨?_, hs, ⟨h2, fun t ht => (h4 t ht).2.1⟩, h3, fun t ht => (h4 t ht).2.2⟩
       unfold checkLitB
       rw [hs]
       rfl
end Go.Proofs.Ytdhocmakbapfpaa.M
end
section
namespace Go.Proofs.Ytdhocmakbapfpaa.M
open Go.R
theorem small_lit {l : Lit} (h : literalB l = true) : l.args.length ≤ 4611686018427387904 := by have := lit_args4 h; omega
theorem check_lits {c : Clause} (h : checkB c = true) : literalB c.head = true ∧ c.body.length ≤ 6 ∧ ∀ l ∈ c.body, literalB l = true := by
 simp only [checkB, checkLitB, Bool.and_eq_true, decide_eq_true_eq, beq_iff_eq, List.all_eq_true] at h
 obtain ⟨⟨⟨⟨h1, h2⟩, h3⟩, h4⟩, h5⟩ := h
 exact ⟨by unfold literalB; rw [h1]; exact h2, h4, h5⟩
theorem check_small {c : Clause} (h : checkB c = true) : smallC c := by
 obtain ⟨h1, h2, h3⟩ := check_lits h
 exact ⟨by omega, small_lit h1, fun l hl => small_lit (h3 l hl)⟩
theorem szL_GL {l : Lit} (h : GL l) : szL l := by
 obtain ⟨h1, _, h3, h4⟩ := h
 have := lit_args4 h1
 exact ⟨by unfold szT szS; omega, by omega, fun t ht => by unfold szT szS; have := h4 t ht; omega⟩
theorem cl_text {c : Clause} (hb : checkB c = true) (hi : clauseI c) : printB c = (clauseText c, 0) ∧ clauseA (clauseText c) = (c, 0, 0) ∧ ((clauseText c).size : Int) ≤ 9223372036854775807 := by
 refine ⟨by unfold printB; rw [hb]; rfl, ?_, ?_⟩
 · unfold clauseA
   rw [back_clause hb hi]
   rfl
 · have := clauseText_size hb hi
   omega
theorem cl_not {c : Clause} (hb : checkB c = false) : printB c = (⟨#[]⟩, 1) := by unfold printB; rw [hb]; rfl
theorem cl_read {s : ByteArray} {x : Clause} {p : Int} (h : clauseA s = (x, p, 0)) : checkB x = true ∧ clauseI x ∧ szC x := by
 unfold clauseA at h
 cases hp : parseP s with
 | error q =>
   rw [hp] at h
   obtain ⟨p', e⟩ := q
   have he := runP_err s (fun T n => clauseP T s n) (fun T n => clauseP_err T s n) _ hp
   simp only [ansP, Prod.mk.injEq] at h
   exact absurd h.2.2 he
 | ok c =>
   rw [hp] at h
   simp only [ansP, id, Prod.mk.injEq] at h
   obtain ⟨rfl, _⟩ := h
   obtain ⟨h1, h2, h3, h4⟩ := parse_ok' hp
   have := (check_lits h1).2.1
   exact ⟨h1, h2, szL_GL h3, by omega, fun l hl => szL_GL (h4 l hl)⟩
theorem li_text {l : Lit} (hb : checkLitB l = true) (hi : litI l) : printLitB l = (litText l, 0) ∧ litA (litText l) = (l, 0, 0) ∧ ((litText l).size : Int) ≤ 9223372036854775807 ∧ literalB l = true := by
 have hb' := hb
 simp only [checkLitB, Bool.and_eq_true, beq_iff_eq] at hb'
 have hlit : literalB l = true := by unfold literalB; rw [hb'.1]; exact hb'.2
 refine ⟨by unfold printLitB; rw [hb]; rfl, ?_, ?_, hlit⟩
 · unfold litA
   rw [back_lit hb hi]
   show ((⟨1, l.who, l.pred, l.args⟩ : Lit), (0 : Int), (0 : Int)) = _
   rw [← hb'.1]
 · have := litText_size hi hlit
   omega
theorem li_not {l : Lit} (hb : checkLitB l = false) : printLitB l = (⟨#[]⟩, 1) := by unfold printLitB; rw [hb]; rfl
theorem li_read {s : ByteArray} {x : Lit} {p : Int} (h : litA s = (x, p, 0)) : checkLitB x = true ∧ litI x ∧ szL x := by
 unfold litA at h
 cases hp : parseLitP s with
 | error q =>
   rw [hp] at h
   obtain ⟨p', e⟩ := q
   have he := runP_err s (fun T n => saidP T s n) (fun T n => saidP_err T s n) _ hp
   simp only [ansP, Prod.mk.injEq] at h
   exact absurd h.2.2 he
 | ok c =>
   rw [hp] at h
   simp only [ansP, Prod.mk.injEq] at h
   obtain ⟨rfl, _⟩ := h
   obtain ⟨h1, h2⟩ := parseLit_ok' hp
   exact ⟨h1, h2.2.1, szL_GL h2⟩
abbrev law7S : Fs := .pureIf (g2p aClause aStr fun c s => allC c ∧ (s.size : Int) ≤ 9223372036854775807) (g2 aClause aStr fun _ _ => vB true)
abbrev law8S : Fs := .pureIf (g2p aLit aStr fun l s => allL l ∧ (s.size : Int) ≤ 9223372036854775807) (g2 aLit aStr fun _ _ => vB true)
set_option maxRecDepth 20000 in
set_option maxHeartbeats 8000000 in
theorem law7_ok : FsOk Try.prog 7 law7S := by
 refine of_Y2 (E := EqT.no _) (F := (((((Ft.no.put 13 fixedS).put 19 copyS).put 18 pprintS).put 24 pcheckS).put 11 pparseS).put 14 sameS) Clause.av vS (fun _ _ => aClause_le) (fun _ _ => aStr_le) Try.func7 rfl (by kernel_rfl) [.tmp 4] rfl Try.ntmps7 (by decide) (((((((FtOk.no _).put fixed_ok).put copy_ok).put pprint_ok).put pcheck_ok).put pparse_ok).put same_ok) ?_
 intro c s h n hp hok
 obtain ⟨hall, hsz⟩ := hp
 obtain ⟨hcp, hci, hcz⟩ := hall
 have hcx := hcz
 obtain ⟨x, p, e, hA⟩ : ∃ x p e, clauseA s = (x, p, e) := ⟨_, _, _, rfl⟩
 have hsm := clauseA_small s
 rw [hA] at hsm
 have hsm : smallC x := hsm
 by_cases he : e = 0
 · subst he
   obtain ⟨hxb, hxi, hxz⟩ := cl_read hA
   obtain ⟨hxp, hxa, hxs⟩ := cl_text hxb hxi
   cases hck : checkB c with
   | true =>
     obtain ⟨hcp', hca, hcs⟩ := cl_text hck hci
     have hsm2 := check_small hck
     repeat' (first | (with_reducible first | refine XG_split (fun hq => ?_) (fun hq => ?_) | refine MX1.of 4000 (by simp) ?_ | refine MX2.of 4000 (by simp) ?_ | refine And.intro ?_ ?_) | ((with_reducible first | refine Or.inl (And.intro (And.intro mixedP ?_) ?_) | refine Or.inl (And.intro mixedP ?_)); kernel_rfl) | simp only [go_sem,Nat.reduceEqDiff,Nat.reduceAdd,Nat.reduceMul,Nat.reduceLeDiff,Int.reduceBEq,Clause.av,Clause.ds,Lit.av,Lit.ds,Lit.bx,Lit.cells,List.map_cons,List.map_nil,hA,hck,hcp',eqB_self,beq_self_eq_true,bne_self_eq_false,hxp,hxa,hca])
     all_goals first | exact hxs | exact hcs | exact hsz | exact hcp | exact hcz | exact hcx | exact hsm | exact hsm2 | exact ⟨hci, hcz⟩ | exact ⟨hxi, hxz⟩ | exact hxz | exact Try.underlying4 | skip
     all_goals first | omega | (unfold maxLen; omega) | (right; omega) | (left; simp; done) | (simp only [wk3,wkL2,wk2,wkL,wk1_d,wk1_own,wk1_nil,and_self]; done) | (intro i hi; simp only [upd]; (repeat' split); all_goals first | rfl | omega) | skip
   | false =>
     have hcp' := cl_not hck
     repeat' (first | (with_reducible first | refine XG_split (fun hq => ?_) (fun hq => ?_) | refine MX1.of 4000 (by simp) ?_ | refine MX2.of 4000 (by simp) ?_ | refine And.intro ?_ ?_) | ((with_reducible first | refine Or.inl (And.intro (And.intro mixedP ?_) ?_) | refine Or.inl (And.intro mixedP ?_)); kernel_rfl) | simp only [go_sem,Nat.reduceEqDiff,Nat.reduceAdd,Nat.reduceMul,Nat.reduceLeDiff,Int.reduceBEq,Clause.av,Clause.ds,Lit.av,Lit.ds,Lit.bx,Lit.cells,List.map_cons,List.map_nil,hA,hck,hcp',eqB_self,beq_self_eq_true,bne_self_eq_false,hxp,hxa])
     all_goals first | exact hxs | exact hsz | exact hcp | exact hcz | exact hcx | exact hsm | exact ⟨hci, hcz⟩ | exact ⟨hxi, hxz⟩ | exact hxz | exact Try.underlying4 | skip
     all_goals first | omega | (unfold maxLen; omega) | (right; omega) | (left; simp; done) | (simp only [wk3,wkL2,wk2,wkL,wk1_d,wk1_own,wk1_nil,and_self]; done) | (intro i hi; simp only [upd]; (repeat' split); all_goals first | rfl | omega) | skip
 · have he' : (e == 0) = false := beq_false_of_ne he
   have he2 : (e != 0) = true := bne_iff_ne.2 he
   cases hck : checkB c with
   | true =>
     obtain ⟨hcp', hca, hcs⟩ := cl_text hck hci
     have hsm2 := check_small hck
     repeat' (first | (with_reducible first | refine XG_split (fun hq => ?_) (fun hq => ?_) | refine MX1.of 4000 (by simp) ?_ | refine MX2.of 4000 (by simp) ?_ | refine And.intro ?_ ?_) | ((with_reducible first | refine Or.inl (And.intro (And.intro mixedP ?_) ?_) | refine Or.inl (And.intro mixedP ?_)); kernel_rfl) | simp only [go_sem,Nat.reduceEqDiff,Nat.reduceAdd,Nat.reduceMul,Nat.reduceLeDiff,Int.reduceBEq,Clause.av,Clause.ds,Lit.av,Lit.ds,Lit.bx,Lit.cells,List.map_cons,List.map_nil,hA,hck,hcp',eqB_self,beq_self_eq_true,bne_self_eq_false,he',he2,hca])
     all_goals first | exact hcs | exact hsz | exact hcp | exact hcz | exact hcx | exact hsm | exact hsm2 | exact ⟨hci, hcz⟩ | exact Try.underlying4 | skip
     all_goals first | omega | (unfold maxLen; omega) | (right; omega) | (left; simp; done) | (simp only [wk3,wkL2,wk2,wkL,wk1_d,wk1_own,wk1_nil,and_self]; done) | (intro i hi; simp only [upd]; (repeat' split); all_goals first | rfl | omega) | skip
   | false =>
     have hcp' := cl_not hck
     repeat' (first | (with_reducible first | refine XG_split (fun hq => ?_) (fun hq => ?_) | refine MX1.of 4000 (by simp) ?_ | refine MX2.of 4000 (by simp) ?_ | refine And.intro ?_ ?_) | ((with_reducible first | refine Or.inl (And.intro (And.intro mixedP ?_) ?_) | refine Or.inl (And.intro mixedP ?_)); kernel_rfl) | simp only [go_sem,Nat.reduceEqDiff,Nat.reduceAdd,Nat.reduceMul,Nat.reduceLeDiff,Int.reduceBEq,Clause.av,Clause.ds,Lit.av,Lit.ds,Lit.bx,Lit.cells,List.map_cons,List.map_nil,hA,hck,hcp',eqB_self,beq_self_eq_true,bne_self_eq_false,he',he2])
     all_goals first | exact hsz | exact hcp | exact hcz | exact hcx | exact hsm | exact ⟨hci, hcz⟩ | exact Try.underlying4 | skip
     all_goals first | omega | (unfold maxLen; omega) | (right; omega) | (left; simp; done) | (simp only [wk3,wkL2,wk2,wkL,wk1_d,wk1_own,wk1_nil,and_self]; done) | (intro i hi; simp only [upd]; (repeat' split); all_goals first | rfl | omega) | skip
set_option maxRecDepth 20000 in
set_option maxHeartbeats 8000000 in
theorem law8_ok : FsOk Try.prog 8 law8S := by
 refine of_Y2 (E := EqT.no _) (F := (((((Ft.no.put 13 fixedS).put 22 copyLitS).put 21 pprintLitS).put 25 pcheckLitS).put 15 pparseLitS).put 17 sameLitS) Lit.av vS (fun _ _ => aLit_le) (fun _ _ => aStr_le) Try.func8 rfl (by kernel_rfl) [.tmp 4] rfl Try.ntmps8 (by decide) (((((((FtOk.no _).put fixed_ok).put copyLit_ok).put pprintLit_ok).put pcheckLit_ok).put pparseLit_ok).put sameLit_ok) ?_
 intro c s h n hp hok
 obtain ⟨hall, hsz⟩ := hp
 obtain ⟨hcp, hci, hcz⟩ := hall
 have hcx := hcz
 obtain ⟨x, p, e, hA⟩ : ∃ x p e, litA s = (x, p, e) := ⟨_, _, _, rfl⟩
 have hsm := litA_small s
 rw [hA] at hsm
 have hsm : x.args.length ≤ 4611686018427387904 := hsm
 by_cases he : e = 0
 · subst he
   obtain ⟨hxb, hxi, hxz⟩ := li_read hA
   obtain ⟨hxp, hxa, hxs, hxl⟩ := li_text hxb hxi
   cases hck : checkLitB c with
   | true =>
     obtain ⟨hcp', hca, hcs, hcl⟩ := li_text hck hci
     have hsm2 := small_lit hcl
     repeat' (first | (with_reducible first | refine XG_split (fun hq => ?_) (fun hq => ?_) | refine MX1.of 4000 (by simp) ?_ | refine MX2.of 4000 (by simp) ?_ | refine And.intro ?_ ?_) | ((with_reducible first | refine Or.inl (And.intro (And.intro mixedP ?_) ?_) | refine Or.inl (And.intro mixedP ?_)); kernel_rfl) | simp only [go_sem,Nat.reduceEqDiff,Nat.reduceAdd,Nat.reduceMul,Nat.reduceLeDiff,Int.reduceBEq,Clause.av,Clause.ds,Lit.av,Lit.ds,Lit.bx,Lit.cells,List.map_cons,List.map_nil,hA,hck,hcp',eqB_self,beq_self_eq_true,bne_self_eq_false,hxp,hxa,hca])
     all_goals first | exact hxs | exact hcs | exact hsz | exact hcp | exact hcz | exact hcx | exact hsm | exact hsm2 | exact ⟨hci, hcz⟩ | exact ⟨hxi, hxz⟩ | exact hxz | exact Try.underlying4 | skip
     all_goals first | omega | (unfold maxLen; omega) | (right; omega) | (left; simp; done) | (simp only [wk3,wkL2,wk2,wkL,wk1_d,wk1_own,wk1_nil,and_self]; done) | (intro i hi; simp only [upd]; (repeat' split); all_goals first | rfl | omega) | skip
   | false =>
     have hcp' := li_not hck
     repeat' (first | (with_reducible first | refine XG_split (fun hq => ?_) (fun hq => ?_) | refine MX1.of 4000 (by simp) ?_ | refine MX2.of 4000 (by simp) ?_ | refine And.intro ?_ ?_) | ((with_reducible first | refine Or.inl (And.intro (And.intro mixedP ?_) ?_) | refine Or.inl (And.intro mixedP ?_)); kernel_rfl) | simp only [go_sem,Nat.reduceEqDiff,Nat.reduceAdd,Nat.reduceMul,Nat.reduceLeDiff,Int.reduceBEq,Clause.av,Clause.ds,Lit.av,Lit.ds,Lit.bx,Lit.cells,List.map_cons,List.map_nil,hA,hck,hcp',eqB_self,beq_self_eq_true,bne_self_eq_false,hxp,hxa])
     all_goals first | exact hxs | exact hsz | exact hcp | exact hcz | exact hcx | exact hsm | exact ⟨hci, hcz⟩ | exact ⟨hxi, hxz⟩ | exact hxz | exact Try.underlying4 | skip
     all_goals first | omega | (unfold maxLen; omega) | (right; omega) | (left; simp; done) | (simp only [wk3,wkL2,wk2,wkL,wk1_d,wk1_own,wk1_nil,and_self]; done) | (intro i hi; simp only [upd]; (repeat' split); all_goals first | rfl | omega) | skip
 · have he' : (e == 0) = false := beq_false_of_ne he
   have he2 : (e != 0) = true := bne_iff_ne.2 he
   cases hck : checkLitB c with
   | true =>
     obtain ⟨hcp', hca, hcs, hcl⟩ := li_text hck hci
     have hsm2 := small_lit hcl
     repeat' (first | (with_reducible first | refine XG_split (fun hq => ?_) (fun hq => ?_) | refine MX1.of 4000 (by simp) ?_ | refine MX2.of 4000 (by simp) ?_ | refine And.intro ?_ ?_) | ((with_reducible first | refine Or.inl (And.intro (And.intro mixedP ?_) ?_) | refine Or.inl (And.intro mixedP ?_)); kernel_rfl) | simp only [go_sem,Nat.reduceEqDiff,Nat.reduceAdd,Nat.reduceMul,Nat.reduceLeDiff,Int.reduceBEq,Clause.av,Clause.ds,Lit.av,Lit.ds,Lit.bx,Lit.cells,List.map_cons,List.map_nil,hA,hck,hcp',eqB_self,beq_self_eq_true,bne_self_eq_false,he',he2,hca])
     all_goals first | exact hcs | exact hsz | exact hcp | exact hcz | exact hcx | exact hsm | exact hsm2 | exact ⟨hci, hcz⟩ | exact Try.underlying4 | skip
     all_goals first | omega | (unfold maxLen; omega) | (right; omega) | (left; simp; done) | (simp only [wk3,wkL2,wk2,wkL,wk1_d,wk1_own,wk1_nil,and_self]; done) | (intro i hi; simp only [upd]; (repeat' split); all_goals first | rfl | omega) | skip
   | false =>
     have hcp' := li_not hck
     repeat' (first | (with_reducible first | refine XG_split (fun hq => ?_) (fun hq => ?_) | refine MX1.of 4000 (by simp) ?_ | refine MX2.of 4000 (by simp) ?_ | refine And.intro ?_ ?_) | ((with_reducible first | refine Or.inl (And.intro (And.intro mixedP ?_) ?_) | refine Or.inl (And.intro mixedP ?_)); kernel_rfl) | simp only [go_sem,Nat.reduceEqDiff,Nat.reduceAdd,Nat.reduceMul,Nat.reduceLeDiff,Int.reduceBEq,Clause.av,Clause.ds,Lit.av,Lit.ds,Lit.bx,Lit.cells,List.map_cons,List.map_nil,hA,hck,hcp',eqB_self,beq_self_eq_true,bne_self_eq_false,he',he2])
     all_goals first | exact hsz | exact hcp | exact hcz | exact hcx | exact hsm | exact ⟨hci, hcz⟩ | exact Try.underlying4 | skip
     all_goals first | omega | (unfold maxLen; omega) | (right; omega) | (left; simp; done) | (simp only [wk3,wkL2,wk2,wkL,wk1_d,wk1_own,wk1_nil,and_self]; done) | (intro i hi; simp only [upd]; (repeat' split); all_goals first | rfl | omega) | skip
end Go.Proofs.Ytdhocmakbapfpaa.M
end
section
namespace Go.Proofs.Ytdhocmakbapfpaa.M
open Go.R
def blanks : Nat → ByteArray
 | 0 => ⟨#[]⟩
 | k + 1 => blanks k ++ (⟨#[32]⟩ : ByteArray)
theorem blanks_size : ∀ k, (blanks k).size = k
 | 0 => rfl
 | k + 1 => by
   show (blanks k ++ (⟨#[32]⟩ : ByteArray)).size = _
   rw [ByteArray.size_append, blanks_size k]
   rfl
theorem blanks_bt : ∀ (k i : Nat), i < k → Go.Proofs.YtdhocmakbapfpaaW.PrintWords.bt (blanks k) i = 32
 | 0, i, h => by omega
 | k + 1, i, h => by
   show Go.Proofs.YtdhocmakbapfpaaW.PrintWords.bt (blanks k ++ (⟨#[32]⟩ : ByteArray)) i = 32
   rcases Nat.lt_or_ge i k with q | q
   · rw [bt_left _ _ _ (by rw [blanks_size]; exact q)]
     exact blanks_bt k i q
   · have e := bt_right (blanks k) (⟨#[32]⟩ : ByteArray) 0
     rw [blanks_size, Nat.zero_add] at e
     rw [show i = k by omega, e]
     rfl
theorem clause_ahead (k : Nat) (s : ByteArray) (h : k + s.size ≤ 4096) : ∃ c p p' e, clauseA s = (c, p, e) ∧ clauseA (blanks k ++ s) = (c, p', e) ∧ (e ≠ 0 → p' = p + k) := by
 have := ahead_law (blanks k) s (fun i hi => blanks_bt k i (by rw [blanks_size] at hi; exact hi)) (by rw [blanks_size]; exact h)
 rw [blanks_size] at this
 exact ⟨_, _, _, _, rfl, (by
  obtain ⟨h1, h2, _⟩ := this
  show clauseA (blanks k ++ s) = ((clauseA s).1, (clauseA (blanks k ++ s)).2.1, (clauseA s).2.2)
  exact Prod.ext h1 (Prod.ext rfl h2)), this.2.2⟩
theorem clause_behind (s : ByteArray) (h : s.size + 2 ≤ 4096) : ∃ q, clauseA (s ++ ends) = ((clauseA s).1, q, (clauseA s).2.2) ∧ ((clauseA s).2.2 ≠ 0 → q = (clauseA s).2.1 ∨ ((clauseA s).2.1 = s.size ∧ q = (s.size : Int) + 2)) := by
 have := behind_law s h
 exact ⟨_, (by
  obtain ⟨h1, h2, _⟩ := this
  show clauseA (s ++ ends) = ((clauseA s).1, (clauseA (s ++ ends)).2.1, (clauseA s).2.2)
  exact Prod.ext h1 (Prod.ext rfl h2)), this.2.2⟩
theorem clause_pos (s : ByteArray) (h : s.size ≤ 4096) : (clauseA s).2.2 ≠ 0 → 0 ≤ (clauseA s).2.1 ∧ (clauseA s).2.1 ≤ s.size := by
 have := parse_tw (s := s) (s' := s) (ok := fun p _ => 0 ≤ p ∧ p ≤ s.size) ⟨fun _ => rfl, fun _ => rfl, fun _ _ => rfl, fun n => pos_range (allT_ok s) n⟩ rfl rfl (fun hc => all_range s hc)
 exact this.2.2
theorem wrap_id {u : Int} (h0 : 0 ≤ u) (h1 : u ≤ 255) : IntKind.i64.wrap u = u := by
 rw [IntKind.wrap_i64]
 omega
abbrev law9S : Fs := .pureIf (g2p aStr aU8 fun s n => (s.size : Int) ≤ 9223372036854775807 ∧ 0 ≤ n ∧ n ≤ 255) (g2 aStr aU8 fun _ _ => vB true)
set_option maxRecDepth 20000 in
set_option maxHeartbeats 8000000 in
theorem law9_ok : FsOk Try.prog 9 law9S := by
 refine of_Y2 (E := EqT.no _) (F := ((Ft.no.put 11 pparseS).put 13 fixedS).put 14 sameS) vS (fun n => .d (.v (.int .u8 n))) (fun _ _ => aStr_le) (fun _ _ h => by rw [aU8_eq h]; exact AV.le.refl _) Try.func9 rfl (by kernel_rfl) [.tmp 4] rfl Try.ntmps9 (by decide) ((((FtOk.no _).put pparse_ok).put fixed_ok).put same_ok) ?_
 intro s u h n hp hok
 obtain ⟨hs, hu0, hu1⟩ := hp
 rcases Nat.lt_or_ge 2000 s.size with big | sm
 · have hb : decide ((2000 : Int) < s.size) = true := decide_eq_true (by omega)
   repeat' (first | (with_reducible first | refine XG_split (fun hq => ?_) (fun hq => ?_) | refine MX1.of 4000 (by simp) ?_ | refine MX2.of 4000 (by simp) ?_ | refine And.intro ?_ ?_) | ((with_reducible first | refine Or.inl (And.intro (And.intro mixedP ?_) ?_) | refine Or.inl (And.intro mixedP ?_)); kernel_rfl) | simp only [go_sem,Nat.reduceEqDiff,Nat.reduceAdd,Nat.reduceMul,Nat.reduceLeDiff,Int.reduceBEq,hb])
   all_goals first | omega | (unfold maxLen; omega) | (right; omega) | (left; simp; done) | (simp only [wk3,wkL2,wk2,wkL,wk1_d,wk1_own,wk1_nil,and_self]; done) | (intro i hi; simp only [upd]; (repeat' split); all_goals first | rfl | omega) | skip
 · have hb : decide ((2000 : Int) < s.size) = false := decide_eq_false (by omega)
   have e0 : (⟨#[]⟩ : ByteArray) = blanks 0 := rfl
   repeat' (first | (with_reducible first | refine XG_split (fun hq => ?_) (fun hq => ?_) | refine MX1.of 4000 (by simp) ?_ | refine MX2.of 4000 (by simp) ?_ | refine And.intro ?_ ?_) | ((with_reducible first | refine Or.inl (And.intro (And.intro mixedP ?_) ?_) | refine Or.inl (And.intro mixedP ?_)); kernel_rfl) | simp only [go_sem,Nat.reduceEqDiff,Nat.reduceAdd,Nat.reduceMul,Nat.reduceLeDiff,Int.reduceBEq,hb])
   all_goals first | omega | (unfold maxLen; omega) | (right; omega) | (left; simp; done) | (simp only [wk3,wkL2,wk2,wkL,wk1_d,wk1_own,wk1_nil,and_self]; done) | (intro i hi; simp only [upd]; (repeat' split); all_goals first | rfl | omega) | skip
   refine AW.loopJ (E := EqT.no _) (S := fun k : Nat => ⟨fr [(0, vS s), (1, .d (.v (.int .u8 u))), (4, vB false), (5, vS (blanks k)), (6, vI k)] (List.replicate 97 .any), h, n, n⟩) (I := fun k => (k : Int) ≤ Int.tmod u 20) (μ := fun k => (Int.tmod u 20).toNat - k) 0 ?_ ?_ 4000 (fun _ => by simp only [fr_len, List.length_replicate]; decide) ?_
   · show ((0 : Nat) : Int) ≤ Int.tmod u 20
     exact Int.tmod_nonneg _ hu0
   · exact Wk.same (by simp only [go_sem]; exact Or.inr (wk3_eq rfl)) hok (Nat.le_refl _) (by simp only [go_sem])
   · intro k hk
     have hk : (k : Int) ≤ Int.tmod u 20 := hk
     have hm : Int.tmod u 20 < 20 := Int.tmod_lt_of_pos _ (by decide)
     have hz := blanks_size k
     have f1 : (#[(32 : UInt8)]).size = 1 := rfl
     have f2 : (#[(9 : UInt8), 32]).size = 2 := rfl
     have hwr : IntKind.i64.wrap u = u := wrap_id hu0 hu1
     by_cases hkl : (k : Int) < Int.tmod u 20
     · repeat' (first | (with_reducible first | refine XG_split (fun hq => ?_) (fun hq => ?_) | refine MX1.of 4000 (by simp) ?_ | refine MX2.of 4000 (by simp) ?_ | refine And.intro ?_ ?_) | ((with_reducible first | refine Or.inl (And.intro (And.intro mixedP ?_) ?_) | refine Or.inl (And.intro mixedP ?_)); kernel_rfl) | simp only [go_sem,Nat.reduceEqDiff,Nat.reduceAdd,Nat.reduceMul,Nat.reduceLeDiff,Int.reduceBEq,hwr,decide_eq_true hkl])
       all_goals first | omega | (rw [f1,hz]; omega) | skip
       all_goals first | omega | (unfold maxLen; omega) | (right; omega) | (left; simp; done) | (simp only [wk3,wkL2,wk2,wkL,wk1_d,wk1_own,wk1_nil,and_self]; done) | (intro i hi; simp only [upd]; (repeat' split); all_goals first | rfl | omega) | skip
       exact ⟨k + 1, by show ((k + 1 : Nat) : Int) ≤ _; omega, Wk.same (by simp only [go_sem, blanks]) hok (Nat.le_refl _) (by simp only [go_sem]), by omega⟩
     · have hke : (k : Int) = Int.tmod u 20 := by omega
       have hsm := clauseA_small s
       obtain ⟨c, p, p', e, hA, hB, hpos⟩ := clause_ahead k s (by omega)
       obtain ⟨q, hC, hq⟩ := clause_behind s (by omega)
       have hr := clause_pos s (by omega)
       rw [hA] at hC hq hr hsm
       simp only at hC hq hr hsm
       by_cases he : e = 0
       · subst he
         repeat' (first | (with_reducible first | refine XG_split (fun hq => ?_) (fun hq => ?_) | refine MX1.of 4000 (by simp) ?_ | refine MX2.of 4000 (by simp) ?_ | refine And.intro ?_ ?_) | ((with_reducible first | refine Or.inl (And.intro (And.intro mixedP ?_) ?_) | refine Or.inl (And.intro mixedP ?_)); kernel_rfl) | simp only [go_sem,Nat.reduceEqDiff,Nat.reduceAdd,Nat.reduceMul,Nat.reduceLeDiff,Int.reduceBEq,hwr,decide_eq_false hkl,hA,hB,hC,Clause.av,Clause.ds,eqB_self,bne_self_eq_false,beq_self_eq_true,hz])
         all_goals first | omega | (rw [f1]; omega) | (rw [f2]; omega) | exact hsm | skip
         all_goals first | omega | (unfold maxLen; omega) | (right; omega) | (left; simp; done) | (simp only [wk3,wkL2,wk2,wkL,wk1_d,wk1_own,wk1_nil,and_self]; done) | (intro i hi; simp only [upd]; (repeat' split); all_goals first | rfl | omega) | skip
       · have hr := hr he
         have hb : (e == 0) = false := beq_false_of_ne he
         obtain rfl := hpos he
         rcases hq he with rfl | ⟨rfl, rfl⟩
         · repeat' (first | (with_reducible first | refine XG_split (fun hq => ?_) (fun hq => ?_) | refine MX1.of 4000 (by simp) ?_ | refine MX2.of 4000 (by simp) ?_ | refine And.intro ?_ ?_) | ((with_reducible first | refine Or.inl (And.intro (And.intro mixedP ?_) ?_) | refine Or.inl (And.intro mixedP ?_)); kernel_rfl) | simp only [go_sem,Nat.reduceEqDiff,Nat.reduceAdd,Nat.reduceMul,Nat.reduceLeDiff,Int.reduceBEq,hwr,decide_eq_false hkl,hA,hB,hC,hb,Clause.av,Clause.ds,eqB_self,bne_self_eq_false,beq_self_eq_true,hz])
           all_goals first | omega | (rw [f1]; omega) | (rw [f2]; omega) | exact hsm | skip
           all_goals first | omega | (unfold maxLen; omega) | (right; omega) | (left; simp; done) | (simp only [wk3,wkL2,wk2,wkL,wk1_d,wk1_own,wk1_nil,and_self]; done) | (intro i hi; simp only [upd]; (repeat' split); all_goals first | rfl | omega) | skip
         · have hx : ((s.size : Int) + 2 == s.size) = false := beq_false_of_ne (by omega)
           repeat' (first | (with_reducible first | refine XG_split (fun hq => ?_) (fun hq => ?_) | refine MX1.of 4000 (by simp) ?_ | refine MX2.of 4000 (by simp) ?_ | refine And.intro ?_ ?_) | ((with_reducible first | refine Or.inl (And.intro (And.intro mixedP ?_) ?_) | refine Or.inl (And.intro mixedP ?_)); kernel_rfl) | simp only [go_sem,Nat.reduceEqDiff,Nat.reduceAdd,Nat.reduceMul,Nat.reduceLeDiff,Int.reduceBEq,hwr,decide_eq_false hkl,hA,hB,hC,hb,hx,Clause.av,Clause.ds,eqB_self,bne_self_eq_false,beq_self_eq_true,hz])
           all_goals first | omega | (rw [f1]; omega) | (rw [f2]; omega) | exact hsm | skip
           all_goals first | omega | (unfold maxLen; omega) | (right; omega) | (left; simp; done) | (simp only [wk3,wkL2,wk2,wkL,wk1_d,wk1_own,wk1_nil,and_self]; done) | (intro i hi; simp only [upd]; (repeat' split); all_goals first | rfl | omega) | skip
end Go.Proofs.Ytdhocmakbapfpaa.M
end
section
namespace Go.R
open Go.RowKit Go.ChangeShapes Go.WideShapes
def Cx.fast (w : World) : Cx := ⟨fun b => if b < w.heap.size then none else some 0, fun _ => 0, fun _ => (none, 0)⟩
def AH.none : AH := fun _ => .no
theorem Wd.fast (w : World) : Wd (Cx.fast w) AH.none 0 w :=
 ⟨fun i cs hi => (by cases hi), fun i m z cap hi _ => (by cases hi), fun i m z a cap hi _ => (by cases hi), fun i j b _ hi _ => (by cases hi), fun b hb => if_neg (Nat.not_lt.2 hb), fun _ _ => rfl⟩
theorem calls_of_fs {P : Program} {f : FuncId} {pre : List AV → Prop} {g : List AV → Option AV} (hF : FsOk P f (.pureIf pre g)) {w : World} {vals : List Value} {args : List AV} {x : Value} (hl : vals.length = args.length)
 (hr : ∀ (j : Nat) v x, vals[j]? = some v → args[j]? = some x → ARep (Cx.fast w) AH.none w v x) (hp : pre args) (hg : g args = some (.d (.v x))) :
 Calls P f vals.toArray w fun e w' => e = .returned x ∧ Below w.heap.size w w' := by
 obtain ⟨hent, hcalls⟩ := hF (Cx.fast w) AH.none 0 w vals args (fun r _ _ => r = .d (.v x)) (Wd.fast w) hl hr ⟨hp, by
  show onO ((g args).map fun r => (r, AH.none, 0)) _
  rw [hg]
  exact rfl⟩
 refine hcalls.mono fun e w' he => ?_
 obtain ⟨y, r, c', h', n', rfl, r1, r2, r3, r4, r5, rfl⟩ := he
 obtain rfl := cval_rep r4 rfl
 exact ⟨rfl, r2.os, r2.tape, r2.output, r2.size, fun b hb => (r2.all b (if_pos hb)).2⟩
theorem post_below {H : Type} {enc : TypeId × Value → H} {P : Program} {f : Func} {s : ChangeSpec} {apart fresh handsOn again : Bool} {W W' : World} {args : Array Value} {v : Value} {ds gs : List (DataW H)} {before pa pv : List MemPlace}
 (hW : DataW.Whole enc P f.params.toList s.vars apart W args.toList ds gs before)
 (hres : ∀ (b : Nat) (sp : Nat → Bool) (hd : Bool), DataW.TrodAll enc P W' b sp hd f.resultTypes.toList (v.resultList f.resultTypes.size) (s.fn H (ds ++ gs)).results [])
 (hargs : ∀ sp : Nat → Bool, (∀ p ∈ before, sp p.block = true) → DataW.TrodAll enc P W' 0 sp true f.params.toList args.toList (s.fn H (ds ++ gs)).args pa)
 (hvars : ∀ sp : Nat → Bool, (∀ p ∈ before, sp p.block = true) → DataW.TrodVars enc P W' sp s.vars (s.fn H (ds ++ gs)).vars pv)
 (hps : before = pa ++ pv) (hB : Below W.heap.size W W')
 (hok : ∀ (j : Nat) (t : TypeId) (r : Value), f.resultTypes[j]? = some t → (v.resultList f.resultTypes.size)[j]? = some r → Value.okWide P W' .any 0 t r) :
 s.post enc P f apart fresh handsOn again W args v W' := by
 have hlt : ∀ p ∈ before, p.block < W.heap.size := fun p hp => by simpa using hW.lt p hp
 have hold : ∀ p ∈ before, (fun b => decide (b < W.heap.size)) p.block = true := fun p hp => decide_eq_true (hlt p hp)
 refine ⟨ds, gs, before, [], pa, pv, hW, hres _ _ _, hargs _ hold, hvars _ hold, hB.frame _, fun _ => ?_⟩
 obtain ⟨_, _, _, _, _, hz, hn⟩ := hW
 refine ⟨hok, _, _, ([] ++ pa) ++ pv, ⟨[] ++ pa, pv, trodAll_append (hargs _ (fun _ _ => rfl)) (hres _ _ _), hvars _ (fun _ _ => rfl), rfl, ?_, ?_⟩, ?_⟩
 · intro b off hp
   have hp' : MemPlace.cell b off ∈ before := by rw [hps]; simpa using hp
   rw [hB.frozen (p := ⟨b, off, none⟩) (hlt _ hp')]
   exact hz b off hp'
 · intro ha
   have := hn ha
   rw [hps] at this
   simpa using this
 · intro p hp _
   rw [hps]
   simpa using hp
end Go.R
end
