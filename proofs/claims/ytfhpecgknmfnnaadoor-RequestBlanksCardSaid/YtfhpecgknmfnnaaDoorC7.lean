import Derived.Test.YtfhpecgknmfnnaaDoorC6
import Derived.Orders
import Derived.Deep.RegionHeld3
import Derived.Calls
import Derived.Tactics
set_option linter.unusedVariables false
set_option linter.unusedSimpArgs false
section
namespace Go.R
open Go.RowKit
section
variable {P : Program} {C : Tb} {E : EqT P} {F : Ft} {h : AH} {n : Nat} {t : List AV} {T : Nat → Prop} {K : AV → AH → Nat → Prop}
theorem oR_den {α : Type} {x : Option α} {f : α → Rs} (q : (oR x f).den K) : ∃ y, x = some y ∧ (f y).den K := by
 cases x with
 | none => exact q.elim
 | some y => exact ⟨y, rfl, q⟩
theorem rdR_den {x : Option AV} (q : (rdR h n x).den K) : ∃ r, x = some r ∧ K r h n := by
 cases x with
 | none => exact q.elim
 | some y => exact ⟨y, rfl, q⟩
theorem packO_x {ty : TypeId} {cs : List AV} {K : AV → Prop} {r : AV} (h1 : packN P ty cs) (h2 : packO P ty cs = some r) (hK : K r) : xpack P ty cs K := by
 unfold packN at h1
 unfold packO at h2
 unfold xpack
 split
 · rename_i hg
   rw [if_pos hg] at h1 h2
   cases h2
   exact ⟨h1, hK⟩
 · rename_i hg
   rw [if_neg hg] at h2
   rw [h2]
   exact hK
theorem wrapR_den {k : IntKind} {m : Int} (q : (wrapR k m h n).den K) : xwrap k m fun r => K (lift r) h n := by
 unfold wrapR at q
 unfold xwrap
 cases k <;> exact q
theorem intR_den {op : BinOp} {k : IntKind} {a b : Int} (q : (intR op k a b h n).den K) : (if isShift op then xshift op k a b fun r => K (lift r) h n else xint op k a b fun r => K (lift r) h n) := by
 cases op <;> simp only [intR, isShift] at q ⊢
 case add => exact wrapR_den q
 case sub => exact wrapR_den q
 case mul => exact wrapR_den q
 all_goals exact q
theorem strR_den {op : BinOp} {a b : ByteArray} (q : (strR op a b h n).den K) : xstr op a b fun r => K (lift r) h n := by
 cases op <;> simp only [strR] at q
 all_goals first | exact q | exact q.elim
theorem run_eqBool {ty : TypeId} (hb : P.underlying ty = some .bool) (a b : Bool) (w : World) : (Op.equal ty (.bool a) (.bool b)).run P w = .ok (a == b) w := by
 rw [Op.equal, show Op.maxDepth = 9999 + 1 from rfl, Op.equalIn, Sem.run_bind, run_underlying hb]
 rfl
theorem binR_den {op : BinOp} {ty : TypeId} {x y : Operand} (q : (binR E op ty (ev t x) (ev t y) h n).den K) : (onO (sval (ev t x)) fun u => onO (sval (ev t y)) fun v => xbin P op ty x y u v fun r => K (lift r) h n) ∨ (sval (ev t x) = none ∧ afnil P op ty (ev t x) (ev t y) fun r => K r h n) := by
 unfold binR at q
 split at q
 · rename_i k a hx
   left
   rw [hx]
   split at q
   · rename_i k' b hy
     rw [hy]
     show (if isShift op then _ else _)
     split at q
     · rename_i hs
       have := intR_den q
       rw [if_pos hs] at this ⊢
       exact this
     · rename_i hs
       obtain ⟨h1, q⟩ := q
       have := intR_den q
       rw [if_neg hs] at this ⊢
       exact ⟨h1, this⟩
   · exact q.elim
 · rename_i a hx
   left
   rw [hx]
   split at q
   · rename_i b hy
     rw [hy]
     exact strR_den q
   · exact q.elim
 · rename_i a hx
   left
   rw [hx]
   split at q
   · rename_i b hy
     rw [hy]
     show ∃ r, _
     split at q
     · obtain ⟨h1, q⟩ := q
       exact ⟨.bool (a == b), fun w => by simp [eqGuard, binOp, run_eqBool h1], q⟩
     · obtain ⟨h1, q⟩ := q
       exact ⟨.bool (!(a == b)), fun w => by simp [eqGuard, binOp, run_eqBool h1], q⟩
     · exact q.elim
   · exact q.elim
 · rename_i us hx
   left
   rw [hx]
   split at q
   · rename_i vs hy
     rw [hy]
     obtain ⟨us', hu, q⟩ := oR_den q
     obtain ⟨vs', hv, q⟩ := oR_den q
     obtain ⟨b, hb, q⟩ := oR_den q
     simp only [sval, hu, hv]
     show ∃ r, _
     split at q
     · exact ⟨.bool b, fun w => (E.ok ty us' vs' b hb _ x y w).1 rfl, q⟩
     · exact ⟨.bool (!b), fun w => (E.ok ty us' vs' b hb _ x y w).2 rfl, q⟩
     · exact q.elim
   · exact q.elim
 · rename_i g af ac hx
   right
   refine ⟨by rw [hx]; rfl, ?_⟩
   unfold afnil
   rw [hx]
   split at q
   · rename_i hy
     rw [hy]
     split at q
     · exact q
     · exact q
     · exact q.elim
   · exact q.elim
 · rename_i hx
   left
   rw [hx]
   split at q
   · rename_i hy
     rw [hy]
     show ∃ r, _
     split at q
     · obtain ⟨h1, q⟩ := q
       exact ⟨.bool true, fun w => nilnil_run h1 (.inl rfl), q⟩
     · obtain ⟨h1, q⟩ := q
       exact ⟨.bool false, fun w => nilnil_run h1 (.inr rfl), q⟩
     · exact q.elim
   · exact q.elim
 · exact q.elim
theorem unR_den {op : UnOp} {x : Operand} (q : (unR op (ev t x) h n).den K) : onO (sval (ev t x)) fun u => xun op u fun r => K (lift r) h n := by
 unfold unR at q
 split at q
 · rename_i b hx; rw [hx]; exact q
 · rename_i k m hx; rw [hx]; exact ⟨q.1, wrapR_den q.2⟩
 · exact q.elim
theorem optI_on {x : Option Operand} {i : Option Int} {K : Option Int → Prop} (e : optI t x = some i) (hK : K i) : onInt t x K := by
 cases x with
 | none => simp [optI] at e; subst e; exact hK
 | some p =>
   simp only [optI] at e
   cases hp : aint (ev t p) with
   | none => simp [hp] at e
   | some j => simp [hp] at e; subst e; simp only [onInt, hp]; exact hK
theorem cut_x {m : Nat} {lo hi : Option Int} {K : Nat → Nat → Prop} (h1 : cutN m lo hi) (hK : K (cutL lo) (cutM m hi)) : xcut m lo hi K := by
 cases lo <;> cases hi
 · exact hK
 · exact ⟨h1, hK⟩
 · exact ⟨h1, hK⟩
 · exact ⟨h1, hK⟩
theorem slR_den {ty : TypeId} {x : AV} {lo hi : Option Int} (q : (slR P ty x lo hi h n).den K) : xsl P ty x lo hi fun r => K r h n := by
 unfold slR at q
 unfold xsl
 split at q
 · rename_i e he
   obtain ⟨xs, hx, h1, h2, q⟩ := oR_den q
   rw [he]
   refine ⟨h1, ?_⟩
   rw [hx]
   exact cut_x (K := fun l m => K (.d (.sl (sizeP P e) ((xs.take m).drop l))) h n) h2 q
 · rename_i he
   rw [he]
   split at q
   · obtain ⟨h1, h2, q⟩ := q
     exact ⟨h1, cut_x (K := fun l m => K (.d (.v (.string (ByteArray.extract _ l m)))) h n) h2 q⟩
   · exact q.elim
theorem buildO_x {place : Nat → Option (Nat × Nat)} : ∀ (parts : List (Nat × AV)) (cs rs : List AV) (K : AV → Prop), buildO place parts cs = some rs → K (.agg rs) → xbuild place parts cs K
 | [], cs, rs, K, e, q => by simp [buildO] at e; subst e; exact q
 | (i, x) :: r, cs, rs, K, e, q => by
   simp only [buildO] at e
   cases hp : place i with
   | none => simp [hp] at e
   | some p =>
     cases hc : cellsA x with
     | none => simp [hp, hc] at e
     | some ncs =>
       simp only [hp, hc] at e
       split at e
       · rename_i hh
         simp only [xbuild, hp, hc]
         exact ⟨hh.1, hh.2, buildO_x r _ rs K e q⟩
       · cases e
theorem allT_all : ∀ {l : List Nat}, allT T l → ∀ i ∈ l, T i
 | [], _, i, hi => by cases hi
 | j :: l, q, i, hi => by
   rcases List.mem_cons.1 hi with rfl | hi
   · exact q.1
   · exact allT_all q.2 i hi
theorem appR_den {e : TypeId} {k z : Nat} {xs : List (List DV)} {x : AV} {p : Prop} (q : (appR P e k z xs x h n p).den K) (hp : p → T k) : xapp P e k z xs x h n T K := by
 obtain ⟨ys, hy, h1, h2, q⟩ := oR_den q
 unfold xapp
 rw [hy]
 exact ⟨h1, hp h2, q⟩
theorem opR_den {op : Op} {ty : TypeId} (q : (opR E F op t h n T).den K) : xop P F.tb op ty t h n T K := by
 unfold opR at q
 unfold xop
 cases op with
 | move x => exact q
 | assign x => exact q
 | pick c a b =>
   simp only at q ⊢
   split at q
   · rename_i b hb
     rw [hb]
     cases b
     · exact ⟨fun e => by (cases e), fun _ => q⟩
     · exact ⟨fun _ => q, fun e => by (cases e)⟩
   · exact q.elim
 | load ty x =>
   simp only [loadR] at q ⊢
   obtain ⟨cs, hc, ⟨h1, h2⟩, q⟩ := oR_den q
   obtain ⟨r, hr, q2⟩ := rdR_den q
   clear q
   refine ⟨h1, ?_⟩
   unfold xload
   unfold cellsOfO at hc
   split at hc
   · rename_i i off hx
     rw [hx]
     split at hc
     · rename_i cs' hb
       cases hc
       simp only [hb]
       exact packO_x (K := fun r => K r h n) h2 hr q2
     · cases hc
   · rename_i cs' hx
     rw [hx]
     cases hc
     exact packO_x (K := fun r => K r h n) h2 hr q2
   · cases hc
 | nilCheck x =>
   simp only at q ⊢
   obtain ⟨r, hr, q⟩ := rdR_den q
   unfold ptrO at hr
   unfold xptr
   split at hr
   · rename_i hx; rw [hx]; cases hr; exact q
   · rename_i hx; rw [hx]; cases hr; exact q
   · rename_i hx; rw [hx]; cases hr; exact ⟨⟨_, rfl⟩, q⟩
   · cases hr
 | fieldAddr ty x f =>
   simp only at q ⊢
   obtain ⟨p, hp, ⟨h1, h2⟩, q⟩ := oR_den q
   obtain ⟨r, hr, q⟩ := rdR_den q
   rw [hp]
   refine ⟨h1, h2, ?_⟩
   unfold fieldO at hr
   unfold xfield
   split at hr
   · rename_i hx; rw [hx]; cases hr; exact q
   · rename_i hx; rw [hx]; cases hr; exact q
   · cases hr
 | indexAddr ty x i =>
   simp only [idxR] at q ⊢
   obtain ⟨i, hi, q⟩ := oR_den q
   unfold xidx
   rw [hi]
   show (match sliceP P ty with
    | some e => _
    | none => _)
   split at q
   · rename_i e he
     rw [he]
     obtain ⟨xs, hx, h1, h2, q⟩ := oR_den q
     refine ⟨h1, ?_⟩
     rw [hx]
     refine ⟨h2, fun row hrow => ?_⟩
     have : rowAt xs i.toNat = row := by unfold rowAt; rw [List.getD_eq_getElem?_getD, hrow]; rfl
     rw [← this]
     exact q
   · rename_i he
     rw [he]
     obtain ⟨p, hp, q⟩ := oR_den q
     show onO (arrayP P ty) _
     rw [hp]
     split at q
     · rename_i j off hx
       obtain ⟨h1, h2, q⟩ := q
       refine ⟨h1, ?_⟩
       rw [hx]
       exact ⟨h2.1, h2.2, q⟩
     · exact q.elim
 | extract x i =>
   simp only at q ⊢
   obtain ⟨r, hr, q⟩ := rdR_den q
   unfold tupO at hr
   split at hr
   · rename_i vs hx
     rw [hx]
     simp only [onTup, hr]
     exact q
   · cases hr
 | makeFunc f x y => exact q
 | binOp op ty x y ty' => exact binR_den q
 | lookup ty x i ok =>
   simp only at q ⊢
   cases ok with
   | true => simp only at q; exact q.elim
   | false =>
     simp only at q
     refine ⟨rfl, ?_⟩
     unfold alook
     split at q
     · rename_i ks vs hx
       rw [hx]
       split at q
       · rename_i s hi
         rw [hi]
         exact q
       · exact q.elim
     · exact q.elim
 | unOp op ty x => exact unR_den q
 | convert src dst x =>
   simp only at q ⊢
   split at q
   · rename_i k b hx
     obtain ⟨k', hk, q1, q⟩ := oR_den q
     rw [hx]
     have hd : P.underlying dst = some (.int k') := by
      unfold intKP at hk
      split at hk
      · rename_i h9; cases hk; exact h9
      · cases hk
     have e : P.intKind dst = k' := by simp [Program.intKind, hd]
     exact ⟨_, fun w => run_convert_int w src dst k b q1 (by rw [e]; exact hd), by rw [e]; exact q⟩
   · exact q.elim
   · rename_i hx
     obtain ⟨rows, h1, q⟩ := oR_den q
     obtain ⟨ns, h2, q1, q⟩ := oR_den q
     rw [hx]
     simp only [onO, h1, h2]
     exact ⟨q1, q⟩
 | makeInterface ty x => exact q.elim
 | index ty x i =>
   simp only at q ⊢
   split at q
   · rename_i b hx
     obtain ⟨j, hj, h1, h2, q⟩ := oR_den q
     refine ⟨h1, ?_⟩
     rw [hx]
     simp only [sval, onO, hj]
     exact ⟨h2, q⟩
   · exact q.elim
 | field ty x f =>
   simp only at q ⊢
   obtain ⟨p, hp, q⟩ := oR_den q
   rw [hp]
   split at q
   · rename_i cs hx
     obtain ⟨⟨h1, h2, h3⟩, q⟩ := q
     obtain ⟨r, hr, q⟩ := rdR_den q
     refine ⟨h1, ?_⟩
     rw [hx]
     exact ⟨⟨by omega, h2⟩, packO_x (K := fun r => K r h n) h3 hr q⟩
   · exact q.elim
 | slice ty x lo hi mx =>
   cases mx with
   | some m => exact q.elim
   | none =>
     simp only at q ⊢
     obtain ⟨vl, hl, q⟩ := oR_den q
     obtain ⟨vh, hh, q⟩ := oR_den q
     exact optI_on (K := fun lo => onInt t hi fun hi => xsl P ty (ev t x) lo hi fun r => K r h n) hl (optI_on (K := fun hi => xsl P ty (ev t x) vl hi fun r => K r h n) hh (slR_den q))
 | alloc ty =>
   simp only at q ⊢
   obtain ⟨cs, hc, q⟩ := oR_den q
   rw [hc]; exact q
 | box ty x =>
   simp only at q ⊢
   obtain ⟨cs, hc, q⟩ := oR_den q
   rw [hc]; exact q
 | store ty x y =>
   simp only at q ⊢
   split at q
   · rename_i i off hx
     split at q
     · rename_i old hb
       obtain ⟨cs, hc, ⟨h1, h2, h3, h4⟩, q⟩ := oR_den q
       refine ⟨h1, ?_⟩
       rw [hx]
       simp only [onBox, hb, onO, hc]
       exact ⟨h2, h3, h4, q⟩
     · exact q.elim
   · exact q.elim
 | build ty parts =>
   simp only at q ⊢
   obtain ⟨cs, hc, q⟩ := oR_den q
   obtain ⟨rs, hr, h1, q⟩ := oR_den q
   refine ⟨h1, ?_⟩
   rw [hc]
   exact buildO_x _ _ rs _ hr q
 | buildSlice ty len parts =>
   simp only at q ⊢
   obtain ⟨e, he, q⟩ := oR_den q
   obtain ⟨zs, hz, q⟩ := oR_den q
   obtain ⟨rows, hr, ⟨h1, h2, h3⟩, q⟩ := oR_den q
   rw [he]
   refine ⟨h1, by rw [hz]; rfl, h2, h3, ?_⟩
   rw [hr]
   show (if len = 0 then _ else _)
   split
   · rename_i h0; rw [if_pos h0] at q; exact q
   · rename_i h0; rw [if_neg h0] at q; exact q
 | call cl =>
   simp only at q ⊢
   split at q
   · rename_i hc
     rw [hc]
     split at q
     · rename_i s x hargs
       split at q
       · rename_i t1 t2 hts
         simp only [hargs, hts]
         obtain ⟨h1, q⟩ := q
         refine ⟨h1, ?_⟩
         obtain ⟨e, he, q⟩ := oR_den q
         obtain ⟨zs, hz, ⟨g1, g2, g3⟩, q⟩ := oR_den q
         unfold xappend
         rw [he]
         refine ⟨g1, g2, by rw [hz]; exact g3, ?_⟩
         split at q
         · rename_i k z xs hs
           obtain ⟨f1, f2, q⟩ := q
           rw [hs]
           exact ⟨f1, f2, appR_den q id⟩
         · rename_i hs
           rw [hs]
           exact appR_den q fun _ => rfl
         · exact q.elim
       · exact q.elim
     · exact q.elim
   · rename_i hc
     rw [hc]
     split at q
     · rename_i x hargs
       split at q
       · rename_i ty hts
         have hty : cl.argTypes[0]? = some ty := by rw [← Array.getElem?_toList, hts]; rfl
         simp only [xbi, hargs, List.head?_cons, onO, hty, List.length_cons, List.length_nil]
         unfold lenR at q
         split at q
         · rename_i hx; rw [hx]; exact ⟨q.1, trivial, q.2⟩
         · rename_i hx; rw [hx]; exact ⟨q.1, trivial, q.2⟩
         · rename_i hx; rw [hx]; exact ⟨q.1, trivial, q.2⟩
         · rename_i hx; rw [hx]; exact ⟨q.1, trivial, q.2⟩
         · exact q.elim
       · exact q.elim
     · exact q.elim
   · rename_i hc
     rw [hc]
     split at q
     · rename_i x y hargs
       simp only [xbi, hargs]
       unfold minR at q
       split at q
       · rename_i k a hx
         split at q
         · rename_i k' b hy
           simp only [hx, hy, aint, xbi.akind, onO]
           exact q
         · exact q.elim
       · exact q.elim
     · exact q.elim
   · rename_i hc
     rw [hc]
     split at q
     · rename_i x y hargs
       simp only [xbi, hargs]
       unfold maxR at q
       split at q
       · rename_i k a hx
         split at q
         · rename_i k' b hy
           simp only [hx, hy, aint, xbi.akind, onO]
           exact q
         · exact q.elim
       · exact q.elim
     · exact q.elim
   · rename_i f hc
     rw [hc]
     simp only
     unfold callR at q
     unfold xcall
     split at q
     · rename_i g caps hf
       obtain ⟨h1, h2, q⟩ := q
       rw [hf]
       refine ⟨allT_all h1, h2, ?_⟩
       show onO ((F g).run _ h n) _
       cases hr : (F g).run (cl.args.toList.map (ev t) ++ caps) h n with
       | none => rw [hr] at q; exact q.elim
       | some r => obtain ⟨r, h', n'⟩ := r; rw [hr] at q; exact q
     · exact q.elim
   · exact q.elim
 | _ => exact q.elim
end
end Go.R
namespace Go.R
open Go.RowKit
def callQR (F : Ft) (f : AV) (args : List AV) (h : AH) (n : Nat) : Rs := match f with
 | .fn (.func g) [] caps => .need ((F g).tch (args ++ caps) = []) (.need ((F g).pre (args ++ caps) h n) (match (F g).run (args ++ caps) h n with
   | some (.d (.v x), _, _) => .ok (.d (.v x)) h n
   | _ => .bad))
 | _ => .bad
def opQ {P : Program} (E : EqT P) (F : Ft) (op : Op) (t : List AV) (h : AH) (n : Nat) : Rs := match op with
 | .call c => match c.callee with
   | .builtin .append => .bad
   | .builtin b => opR E F (.call c) t h n (fun _ => False)
   | .value f => callQR F (ev t f) (c.args.toList.map (ev t)) h n
   | _ => .bad
 | op => if quietOp op then opR E F op t h n (fun _ => False) else .bad
inductive KI where
 | code (c : Code)
 | blk (id : Nat)
inductive Cf where
 | ops (all : Array Oper) (l : List Oper)
 | opsQ (all : Array Oper) (l : List Oper)
 | code (c : Code)
 | norm
 | exit (id : Nat)
abbrev Gx := Cf → List KI → St → Prop
def XR (G : Gx) (c : Cf) (ks : List KI) (t : List AV) (d : Option Tmp) (b : Nat) : Rs → Prop
 | .ok r h n => G c ks ⟨putT t d r, h, b, n⟩
 | .bad => False
 | .need p r => p ∧ XR G c ks t d b r
 | .two q x y => (q = true → XR G c ks t d b x) ∧ (q = false → XR G c ks t d b y)
def XRQ (G : Gx) (c : Cf) (ks : List KI) (t : List AV) (d : Option Tmp) (b : Nat) (h : AH) (n : Nat) : Rs → Prop
 | .ok r _ _ => G c ks ⟨putT t d r, h, b, n⟩
 | .bad => False
 | .need p r => p ∧ XRQ G c ks t d b h n r
 | .two q x y => (q = true → XRQ G c ks t d b h n x) ∧ (q = false → XRQ G c ks t d b h n y)
def XG (G : Gx) (q : Bool) (ks : List KI) (c1 : Cf) (s1 : St) (c2 : Cf) (s2 : St) : Prop := match q with
 | true => G c1 ks s1
 | false => G c2 ks s2
theorem XG_true (G : Gx) (ks : List KI) (c1 c2 : Cf) (s1 s2 : St) : XG G true ks c1 s1 c2 s2 = G c1 ks s1 := rfl
theorem XG_false (G : Gx) (ks : List KI) (c1 c2 : Cf) (s1 s2 : St) : XG G false ks c1 s1 c2 s2 = G c2 ks s2 := rfl
theorem XG_split {G : Gx} {q : Bool} {ks : List KI} {c1 c2 : Cf} {s1 s2 : St} (h1 : q = true → G c1 ks s1) (h2 : q = false → G c2 ks s2) : XG G q ks c1 s1 c2 s2 := by
 cases q
 · exact h2 rfl
 · exact h1 rfl
def XB (G : Gx) (x : AV) (ks : List KI) (c1 : Cf) (s1 : St) (c2 : Cf) (s2 : St) : Prop := match x with
 | .d (.v (.bool q)) => XG G q ks c1 s1 c2 s2
 | _ => False
def XS (G : Gx) (x : AV) (ks : List KI) (c1 : Cf) (s1 : St) (c2 : Cf) (s2 : St) (c3 : Cf) (s3 : St) : Prop := match x with
 | .d (.v (.bool q)) => XG G q ks c1 s1 c2 s2
 | .tup [] => G c3 ks s3
 | _ => False
def gdst (all : Array Oper) (j : Nat) : Nat := match all[j]? with
 | some o => match o.dst with
   | some d => d
   | none => all.size + 1000000
 | none => all.size + 1000000
def XQ (G : Gx) (Q : Exit → St → Prop) (ks : List KI) (e : Exit) (s : St) : Prop := match e with
 | .normal => G .norm ks s
 | .exit id => G (.exit id) ks s
 | .ret => Q .ret s
 | _ => False
def bT : AV := .d (.v (.bool true))
def bF : AV := .d (.v (.bool false))
def Xi {P : Program} (E : EqT P) (F : Ft) (T : List Nat) (Q : Exit → St → Prop) : Nat → Cf → List KI → St → Prop
 | 0, _, _, _ => False
 | f + 1, .norm, [], s => Q .normal s
 | f + 1, .norm, .code c :: ks, s => Xi E F T Q f (.code c) ks s
 | f + 1, .norm, .blk _ :: ks, s => Xi E F T Q f .norm ks s
 | f + 1, .exit id, [], s => Q (.exit id) s
 | f + 1, .exit id, .code _ :: ks, s => Xi E F T Q f (.exit id) ks s
 | f + 1, .exit id, .blk i :: ks, s => if id = i then Xi E F T Q f .norm ks s else Xi E F T Q f (.exit id) ks s
 | f + 1, .ops all [], ks, s => Xi E F T Q f .norm ks s
 | f + 1, .ops all (⟨d, op, ty, p, af, none⟩ :: rest), ks, s => XR (Xi E F T Q f) (.ops all rest) ks s.t d s.b (opR E F op s.t s.h s.n (may T s.b))
 | f + 1, .ops all (⟨d, op, ty, p, af, some (j, true)⟩ :: rest), ks, s => XS (Xi E F T Q f) (s.t.getD (gdst all j) .any) ks (.ops all (⟨d, op, ty, p, af, none⟩ :: rest)) ⟨s.t.set (gdst all j) bT, s.h, s.b, s.n⟩ (.ops all rest) ⟨putT (s.t.set (gdst all j) bF) d (.tup []), s.h, s.b, s.n⟩ (.ops all rest) ⟨putT s.t d (.tup []), s.h, s.b, s.n⟩
 | f + 1, .ops all (⟨d, op, ty, p, af, some (j, false)⟩ :: rest), ks, s => XS (Xi E F T Q f) (s.t.getD (gdst all j) .any) ks (.ops all rest) ⟨putT (s.t.set (gdst all j) bT) d (.tup []), s.h, s.b, s.n⟩ (.ops all (⟨d, op, ty, p, af, none⟩ :: rest)) ⟨s.t.set (gdst all j) bF, s.h, s.b, s.n⟩ (.ops all rest) ⟨putT s.t d (.tup []), s.h, s.b, s.n⟩
 | f + 1, .opsQ all [], ks, s => Xi E F T Q f .norm ks s
 | f + 1, .opsQ all (⟨d, op, ty, p, af, none⟩ :: rest), ks, s => XRQ (Xi E F T Q f) (.opsQ all rest) ks s.t d s.b s.h s.n (opQ E F op s.t s.h s.n)
 | f + 1, .opsQ all (⟨d, op, ty, p, af, some (j, true)⟩ :: rest), ks, s => XS (Xi E F T Q f) (s.t.getD (gdst all j) .any) ks (.opsQ all (⟨d, op, ty, p, af, none⟩ :: rest)) ⟨s.t.set (gdst all j) bT, s.h, s.b, s.n⟩ (.opsQ all rest) ⟨putT (s.t.set (gdst all j) bF) d (.tup []), s.h, s.b, s.n⟩ (.opsQ all rest) ⟨putT s.t d (.tup []), s.h, s.b, s.n⟩
 | f + 1, .opsQ all (⟨d, op, ty, p, af, some (j, false)⟩ :: rest), ks, s => XS (Xi E F T Q f) (s.t.getD (gdst all j) .any) ks (.opsQ all rest) ⟨putT (s.t.set (gdst all j) bT) d (.tup []), s.h, s.b, s.n⟩ (.opsQ all (⟨d, op, ty, p, af, none⟩ :: rest)) ⟨s.t.set (gdst all j) bF, s.h, s.b, s.n⟩ (.opsQ all rest) ⟨putT s.t d (.tup []), s.h, s.b, s.n⟩
 | f + 1, .code .skip, ks, s => Xi E F T Q f .norm ks s
 | f + 1, .code (.region _ ops false), ks, s => Xi E F T Q f (.ops ops ops.toList) ks s
 | f + 1, .code (.region id ops true), ks, s => ((P.follows .mixedOrders = true ∧ Region.lexB .any ops = true) ∧ Xi E F T Q f (.opsQ ops ops.toList) ks s) ∨ AW P F.tb T (.region id ops true) (XQ (Xi E F T Q f) Q ks) s
 | f + 1, .code (.seq a b), ks, s => Xi E F T Q f (.code a) (.code b :: ks) s
 | f + 1, .code (.cond c a b), ks, s => XB (Xi E F T Q f) (ev s.t c) ks (.code a) ⟨setC s.t c true, s.h, s.b, s.n⟩ (.code b) ⟨setC s.t c false, s.h, s.b, s.n⟩
 | f + 1, .code (.block id a), ks, s => Xi E F T Q f (.code a) (.blk id :: ks) s
 | f + 1, .code (.exit id), ks, s => Xi E F T Q f (.exit id) ks s
 | f + 1, .code .ret, ks, s => Q .ret s
 | f + 1, .code (.refuse _), ks, s => False
 | f + 1, .code c, ks, s => AW P F.tb T c (XQ (Xi E F T Q f) Q ks) s
def KQ (P : Program) (C : Tb) (T : List Nat) : List KI → (Exit → St → Prop) → Exit → St → Prop
 | [], Q => Q
 | .code c :: ks, Q => fun e s => match e with
   | .normal => AW P C T c (KQ P C T ks Q) s
   | e => KQ P C T ks Q e s
 | .blk id :: ks, Q => fun e s => match e with
   | .exit i => if i = id then KQ P C T ks Q .normal s else KQ P C T ks Q (.exit i) s
   | e => KQ P C T ks Q e s
end Go.R
namespace Go.R
open Go.RowKit
section
variable {P : Program} {E : EqT P} {F : Ft} {h : AH} {n : Nat} {t : List AV} {T : List Nat} {Q : Exit → St → Prop}
theorem callQR_den {f : AV} {args : List AV} {K : AV → AH → Nat → Prop} (q : (callQR F f args h n).den K) : xcallQ F.tb f args h n fun r => K r h n := by
 unfold callQR at q
 unfold xcallQ
 split at q
 · rename_i g caps
   obtain ⟨h1, h2, q⟩ := q
   refine ⟨h1, ?_⟩
   cases hr : (F g).run (args ++ caps) h n with
   | none => rw [hr] at q; exact q.elim
   | some r =>
     rw [hr] at q
     split at q
     · rename_i x h' n' e
       cases e
       refine ⟨x, ⟨h2, ?_⟩, q⟩
       show onO ((F g).run _ h n) _
       rw [hr]
       rfl
     · exact q.elim
 · exact q.elim
theorem opQ_den {op : Op} {ty : TypeId} {K : AV → Prop} (q : (opQ E F op t h n).den fun r _ _ => K r) : xopQ P F.tb op ty t h n K := by
 have gen : quietOp op = true → (∀ c, op ≠ .call c) → ((opR E F op t h n (fun _ => False)).den fun r _ _ => K r) → xopQ P F.tb op ty t h n K := by
  intro hq hc q
  have hx : xop P F.tb op ty t h n (fun _ => False) fun r _ _ => K r := opR_den q
  cases op with
  | call c => exact absurd rfl (hc c)
  | _ => exact ⟨hq, hx⟩
 unfold opQ at q
 cases op with
 | call cl =>
   simp only at q
   unfold xopQ
   simp only
   split at q
   · exact q.elim
   · rename_i b hb hc
     rw [hc]
     have hx : xop P F.tb (.call cl) ty t h n (fun _ => False) fun r _ _ => K r := opR_den q
     unfold xop at hx
     simp only [hc] at hx
     cases b <;> first | exact absurd rfl hb | exact hx
   · rename_i f hc
     rw [hc]
     exact callQR_den q
   · exact q.elim
 | _ =>
   simp only at q
   split at q
   · rename_i hq
     exact gen hq (fun c e => by cases e) q
   · exact q.elim
theorem XRQ_den {G : Gx} {c : Cf} {ks : List KI} {d : Option Tmp} {b : Nat} : ∀ {r : Rs}, XRQ G c ks t d b h n r → r.den fun r _ _ => G c ks ⟨putT t d r, h, b, n⟩
 | .ok r _ _, q => q
 | .bad, q => q
 | .need p r, q => ⟨q.1, XRQ_den q.2⟩
 | .two c x y, q => ⟨fun e => XRQ_den (q.1 e), fun e => XRQ_den (q.2 e)⟩
theorem XR_den {G : Gx} {c : Cf} {ks : List KI} {d : Option Tmp} {b : Nat} : ∀ {r : Rs}, XR G c ks t d b r → r.den fun r h n => G c ks ⟨putT t d r, h, b, n⟩
 | .ok r h n, q => q
 | .bad, q => q
 | .need p r, q => ⟨q.1, XR_den q.2⟩
 | .two c x y, q => ⟨fun e => XR_den (q.1 e), fun e => XR_den (q.2 e)⟩
theorem XB_iff {G : Gx} {x : AV} {ks : List KI} {c1 c2 : Cf} {s1 s2 : St} (q : XB G x ks c1 s1 c2 s2) : ∃ b, x = .d (.v (.bool b)) ∧ (b = true → G c1 ks s1) ∧ (b = false → G c2 ks s2) := by
 unfold XB at q
 split at q
 · rename_i b
   refine ⟨b, rfl, ?_, ?_⟩ <;> intro e <;> subst e <;> exact q
 · exact q.elim
theorem XS_iff {G : Gx} {x : AV} {ks : List KI} {c1 c2 c3 : Cf} {s1 s2 s3 : St} (q : XS G x ks c1 s1 c2 s2 c3 s3) : (∃ b, x = .d (.v (.bool b)) ∧ (b = true → G c1 ks s1) ∧ (b = false → G c2 ks s2)) ∨ (x = .tup [] ∧ G c3 ks s3) := by
 unfold XS at q
 split at q
 · rename_i b
   refine .inl ⟨b, rfl, ?_, ?_⟩ <;> intro e <;> subst e <;> exact q
 · exact .inr ⟨rfl, q⟩
 · exact q.elim
theorem gdst_eq' {all : Array Oper} {j : Nat} (hx : t.getD (gdst all j) .any = .tup []) (hl : t.length ≤ all.size + 1000000) : (all[j]?).bind (·.dst) = some (gdst all j) := by
 unfold gdst at hx ⊢
 split
 · rename_i o ho
   split
   · rename_i d hd
     simp [ho, hd]
   · rename_i hd
     simp only [ho, hd] at hx
     rw [List.getD_eq_getElem?_getD, List.getElem?_eq_none hl] at hx
     cases hx
 · rename_i ho
   simp only [ho] at hx
   rw [List.getD_eq_getElem?_getD, List.getElem?_eq_none hl] at hx
   cases hx
theorem KQ_ret : ∀ (ks : List KI) (s : St), Q .ret s → KQ P F.tb T ks Q .ret s
 | [], _, q => q
 | .code _ :: ks, s, q => KQ_ret ks s q
 | .blk _ :: ks, s, q => KQ_ret ks s q
theorem gdst_eq {all : Array Oper} {j : Nat} {b : Bool} (hx : t.getD (gdst all j) .any = .d (.v (.bool b))) (hl : t.length ≤ all.size + 1000000) : (all[j]?).bind (·.dst) = some (gdst all j) := by
 unfold gdst at hx ⊢
 split
 · rename_i o ho
   split
   · rename_i d hd
     simp [ho, hd]
   · rename_i hd
     simp only [ho, hd] at hx
     rw [List.getD_eq_getElem?_getD, List.getElem?_eq_none hl] at hx
     cases hx
 · rename_i ho
   simp only [ho] at hx
   rw [List.getD_eq_getElem?_getD, List.getElem?_eq_none hl] at hx
   cases hx
theorem Rs.mono {K K' : AV → AH → Nat → Prop} (hK : ∀ r h n, K r h n → K' r h n) : ∀ {r : Rs}, r.den K → r.den K'
 | .ok r h n, q => hK r h n q
 | .bad, q => q
 | .need p r, q => ⟨q.1, Rs.mono hK q.2⟩
 | .two c x y, q => ⟨fun e => Rs.mono hK (q.1 e), fun e => Rs.mono hK (q.2 e)⟩
theorem Xi_sound : ∀ f : Nat, (∀ ks s, s.t.length ≤ 1000000 → Xi E F T Q f .norm ks s → KQ P F.tb T ks Q .normal s) ∧ (∀ id ks s, s.t.length ≤ 1000000 → Xi E F T Q f (.exit id) ks s → KQ P F.tb T ks Q (.exit id) s) ∧
 (∀ all l ks s, s.t.length ≤ 1000000 → Xi E F T Q f (.ops all l) ks s → xops P F.tb T all l s fun s' => s'.t.length ≤ 1000000 → KQ P F.tb T ks Q .normal s') ∧ (∀ all l ks s, s.t.length ≤ 1000000 → Xi E F T Q f (.opsQ all l) ks s → xopsQ P F.tb all l s fun s' => s'.t.length ≤ 1000000 → KQ P F.tb T ks Q .normal s') ∧
 (∀ c ks s, s.t.length ≤ 1000000 → Xi E F T Q f (.code c) ks s → AW P F.tb T c (KQ P F.tb T ks Q) s) := by
 intro f
 induction f with
 | zero => exact ⟨fun _ _ _ q => q.elim, fun _ _ _ _ q => q.elim, fun _ _ _ _ _ q => q.elim, fun _ _ _ _ _ q => q.elim, fun _ _ _ _ q => q.elim⟩
 | succ f ih =>
   obtain ⟨ihn, ihe, iho, ihq, ihc⟩ := ih
   refine ⟨fun ks s hl q => ?_, fun id ks s hl q => ?_, fun all l ks s hl q => ?_, fun all l ks s hl q => ?_, fun c ks s hl q => ?_⟩
   · cases ks with
     | nil => exact q
     | cons k ks =>
       cases k with
       | code c => exact ihc c ks s hl q
       | blk i => exact ihn ks s hl q
   · cases ks with
     | nil => exact q
     | cons k ks =>
       cases k with
       | code c => exact ihe id ks s hl q
       | blk i =>
         simp only [Xi] at q
         simp only [KQ]
         by_cases hi : id = i
         · rw [if_pos hi] at q ⊢; exact ihn ks s hl q
         · rw [if_neg hi] at q ⊢; exact ihe id ks s hl q
   · cases l with
     | nil => exact fun _ => ihn ks s hl q
     | cons o rest =>
       obtain ⟨d, op, ty, p, af, g⟩ := o
       cases g with
       | none =>
         exact opR_den (Rs.mono (fun r h n hx => iho all rest ks _ (by rw [putT_length]; exact hl) hx) (XR_den q))
       | some g =>
         obtain ⟨j, w⟩ := g
         cases w with
         | true =>
           rcases XS_iff q with ⟨b, hb, h1, h2⟩ | ⟨hb, h3⟩
           case inr =>
            have hd := gdst_eq' hb (by omega)
            show onO _ _
            rw [hd]
            show onG _ _ _
            rw [hb]
            exact iho all rest ks _ (by simpa [putT_length] using hl) h3
           have hd := gdst_eq hb (by omega)
           show onO _ _
           rw [hd]
           show onG _ _ _
           rw [hb]
           exact ⟨fun e => iho all _ ks _ (by simpa using hl) (h1 e), fun e => iho all rest ks _ (by simpa [putT_length] using hl) (h2 e)⟩
         | false =>
           rcases XS_iff q with ⟨b, hb, h1, h2⟩ | ⟨hb, h3⟩
           case inr =>
            have hd := gdst_eq' hb (by omega)
            show onO _ _
            rw [hd]
            show onG _ _ _
            rw [hb]
            exact iho all rest ks _ (by simpa [putT_length] using hl) h3
           have hd := gdst_eq hb (by omega)
           show onO _ _
           rw [hd]
           show onG _ _ _
           rw [hb]
           exact ⟨fun e => iho all rest ks _ (by simpa [putT_length] using hl) (h1 e), fun e => iho all _ ks _ (by simpa using hl) (h2 e)⟩
   · cases l with
     | nil => exact fun _ => ihn ks s hl q
     | cons o rest =>
       obtain ⟨d, op, ty, p, af, g⟩ := o
       cases g with
       | none =>
         exact opQ_den (Rs.mono (fun r h n hx => ihq all rest ks _ (by rw [putT_length]; exact hl) hx) (XRQ_den q))
       | some g =>
         obtain ⟨j, w⟩ := g
         cases w with
         | true =>
           rcases XS_iff q with ⟨b, hb, h1, h2⟩ | ⟨hb, h3⟩
           case inr =>
            have hd := gdst_eq' hb (by omega)
            show onO _ _
            rw [hd]
            show onG _ _ _
            rw [hb]
            exact ihq all rest ks _ (by simpa [putT_length] using hl) h3
           have hd := gdst_eq hb (by omega)
           show onO _ _
           rw [hd]
           show onG _ _ _
           rw [hb]
           exact ⟨fun e => ihq all _ ks _ (by simpa using hl) (h1 e), fun e => ihq all rest ks _ (by simpa [putT_length] using hl) (h2 e)⟩
         | false =>
           rcases XS_iff q with ⟨b, hb, h1, h2⟩ | ⟨hb, h3⟩
           case inr =>
            have hd := gdst_eq' hb (by omega)
            show onO _ _
            rw [hd]
            show onG _ _ _
            rw [hb]
            exact ihq all rest ks _ (by simpa [putT_length] using hl) h3
           have hd := gdst_eq hb (by omega)
           show onO _ _
           rw [hd]
           show onG _ _ _
           rw [hb]
           exact ⟨fun e => ihq all rest ks _ (by simpa [putT_length] using hl) (h1 e), fun e => ihq all _ ks _ (by simpa using hl) (h2 e)⟩
   · have loopish : AW P F.tb T c (XQ (Xi E F T Q f) Q ks) s → AW P F.tb T c (KQ P F.tb T ks Q) s := fun A => A.mono fun e s' _ hl2 r => by
      cases e with
      | normal => exact ihn ks s' (by omega) r
      | exit id => exact ihe id ks s' (by omega) r
      | ret => exact KQ_ret ks s' r
      | _ => exact r.elim
     cases c with
     | skip => exact AW.skip (ihn ks s hl q)
     | region id ops dr =>
       cases dr with
       | false => exact (AW.xregion (Q := fun e s' => match e with
          | .normal => s'.t.length ≤ 1000000 → KQ P F.tb T ks Q .normal s'
          | _ => False) (iho ops ops.toList ks s hl q)).mono fun e s' _ hl2 r => (by
              cases e with
              | normal => exact r (by omega)
              | _ => exact r.elim)
       | true => exact q.elim (fun q => (AW.xregionQ (Q := fun e s' => match e with
          | .normal => s'.t.length ≤ 1000000 → KQ P F.tb T ks Q .normal s'
          | _ => False) q.1.1 q.1.2 (ihq ops ops.toList ks s hl q.2)).mono fun e s' _ hl2 r => (by
              cases e with
              | normal => exact r (by omega)
              | _ => exact r.elim)) loopish
     | seq a b =>
       refine AW.seq ((ihc a (.code b :: ks) s hl q).mono fun e s' _ _ r => ?_)
       cases e <;> exact r
     | cond p a b =>
       obtain ⟨v, hv, h1, h2⟩ := XB_iff q
       exact AW.cond hv (fun e => ihc a ks _ (by cases p <;> simpa [setC] using hl) (h1 e)) (fun e => ihc b ks _ (by cases p <;> simpa [setC] using hl) (h2 e))
     | block id a =>
       refine AW.block ((ihc a (.blk id :: ks) s hl q).mono fun e s' _ _ r => ?_)
       cases e <;> exact r
     | exit id => exact AW.exit (ihe id ks s hl q)
     | ret => exact AW.ret (KQ_ret ks s q)
     | refuse _ => exact q.elim
     | loop _ => exact loopish q
     | rangeFunc _ _ _ _ => exact loopish q
     | scope _ => exact loopish q
     | label _ => exact loopish q
     | goto _ => exact loopish q
noncomputable def X {P : Program} (E : EqT P) (F : Ft) (T : List Nat) (Q : Exit → St → Prop) : Nat → Cf → List KI → St → Prop := Classical.choose (⟨Xi E F T Q, rfl⟩ : ∃ G, G = Xi E F T Q)
theorem X_eq : X E F T Q = Xi E F T Q := Classical.choose_spec (⟨Xi E F T Q, rfl⟩ : ∃ G, G = Xi E F T Q)
theorem AW.of_X {c : Code} {s : St} (f : Nat) (hl : s.t.length ≤ 1000000) (q : X E F T Q f (.code c) [] s) : AW P F.tb T c Q s := by
 rw [X_eq] at q
 exact (Xi_sound f).2.2.2.2 c [] s hl q
section
variable {f : Nat} {ks : List KI} {s : St} {id i j w1 w2 : Nat} {c a b : Code} {all ops : Array Oper} {rest : List Oper} {d : Option Tmp} {op : Op} {ty : TypeId} {p : String} {af : Array Edge} {w3 : String} {o : Operand}
theorem X_1 : X E F T Q (f + 1) (.norm) ([]) s = Q .normal s := by
 simp only [X_eq]
 rfl
theorem X_2 : X E F T Q (f + 1) (.norm) (.code c :: ks) s = X E F T Q f (.code c) ks s := by
 simp only [X_eq]
 rfl
theorem X_3 : X E F T Q (f + 1) (.norm) (.blk w2 :: ks) s = X E F T Q f .norm ks s := by
 simp only [X_eq]
 rfl
theorem X_4 : X E F T Q (f + 1) (.exit id) ([]) s = Q (.exit id) s := by
 simp only [X_eq]
 rfl
theorem X_5 : X E F T Q (f + 1) (.exit id) (.code c :: ks) s = X E F T Q f (.exit id) ks s := by
 simp only [X_eq]
 rfl
theorem X_6 : X E F T Q (f + 1) (.exit id) (.blk i :: ks) s = if id = i then X E F T Q f .norm ks s else X E F T Q f (.exit id) ks s := by
 simp only [X_eq]
 rfl
theorem X_7 : X E F T Q (f + 1) (.ops all []) (ks) s = X E F T Q f .norm ks s := by
 simp only [X_eq]
 rfl
theorem X_8 : X E F T Q (f + 1) (.ops all (⟨d, op, ty, p, af, none⟩ :: rest)) (ks) s = XR (X E F T Q f) (.ops all rest) ks s.t d s.b (opR E F op s.t s.h s.n (may T s.b)) := by
 simp only [X_eq]
 rfl
theorem X_9 : X E F T Q (f + 1) (.ops all (⟨d, op, ty, p, af, some (j, true)⟩ :: rest)) (ks) s = XS (X E F T Q f) (s.t.getD (gdst all j) .any) ks (.ops all (⟨d, op, ty, p, af, none⟩ :: rest)) ⟨s.t.set (gdst all j) bT, s.h, s.b, s.n⟩ (.ops all rest) ⟨putT (s.t.set (gdst all j) bF) d (.tup []), s.h, s.b, s.n⟩ (.ops all rest) ⟨putT s.t d (.tup []), s.h, s.b, s.n⟩ := by
 simp only [X_eq]
 rfl
theorem X_10 : X E F T Q (f + 1) (.ops all (⟨d, op, ty, p, af, some (j, false)⟩ :: rest)) (ks) s = XS (X E F T Q f) (s.t.getD (gdst all j) .any) ks (.ops all rest) ⟨putT (s.t.set (gdst all j) bT) d (.tup []), s.h, s.b, s.n⟩ (.ops all (⟨d, op, ty, p, af, none⟩ :: rest)) ⟨s.t.set (gdst all j) bF, s.h, s.b, s.n⟩ (.ops all rest) ⟨putT s.t d (.tup []), s.h, s.b, s.n⟩ := by
 simp only [X_eq]
 rfl
theorem X_11 : X E F T Q (f + 1) (.opsQ all []) (ks) s = X E F T Q f .norm ks s := by
 simp only [X_eq]
 rfl
theorem X_12 : X E F T Q (f + 1) (.opsQ all (⟨d, op, ty, p, af, none⟩ :: rest)) (ks) s = XRQ (X E F T Q f) (.opsQ all rest) ks s.t d s.b s.h s.n (opQ E F op s.t s.h s.n) := by
 simp only [X_eq]
 rfl
theorem X_13 : X E F T Q (f + 1) (.opsQ all (⟨d, op, ty, p, af, some (j, true)⟩ :: rest)) (ks) s = XS (X E F T Q f) (s.t.getD (gdst all j) .any) ks (.opsQ all (⟨d, op, ty, p, af, none⟩ :: rest)) ⟨s.t.set (gdst all j) bT, s.h, s.b, s.n⟩ (.opsQ all rest) ⟨putT (s.t.set (gdst all j) bF) d (.tup []), s.h, s.b, s.n⟩ (.opsQ all rest) ⟨putT s.t d (.tup []), s.h, s.b, s.n⟩ := by
 simp only [X_eq]
 rfl
theorem X_14 : X E F T Q (f + 1) (.opsQ all (⟨d, op, ty, p, af, some (j, false)⟩ :: rest)) (ks) s = XS (X E F T Q f) (s.t.getD (gdst all j) .any) ks (.opsQ all rest) ⟨putT (s.t.set (gdst all j) bT) d (.tup []), s.h, s.b, s.n⟩ (.opsQ all (⟨d, op, ty, p, af, none⟩ :: rest)) ⟨s.t.set (gdst all j) bF, s.h, s.b, s.n⟩ (.opsQ all rest) ⟨putT s.t d (.tup []), s.h, s.b, s.n⟩ := by
 simp only [X_eq]
 rfl
theorem X_15 : X E F T Q (f + 1) (.code .skip) (ks) s = X E F T Q f .norm ks s := by
 simp only [X_eq]
 rfl
theorem X_16 : X E F T Q (f + 1) (.code (.region w1 ops false)) (ks) s = X E F T Q f (.ops ops ops.toList) ks s := by
 simp only [X_eq]
 rfl
theorem X_17 : X E F T Q (f + 1) (.code (.region w1 ops true)) (ks) s = (((P.follows .mixedOrders = true ∧ Region.lexB .any ops = true) ∧ X E F T Q f (.opsQ ops ops.toList) ks s) ∨ AW P F.tb T (.region w1 ops true) (XQ (X E F T Q f) Q ks) s) := by
 simp only [X_eq]
 rfl
theorem X_18 : X E F T Q (f + 1) (.code (.seq a b)) (ks) s = X E F T Q f (.code a) (.code b :: ks) s := by
 simp only [X_eq]
 rfl
theorem X_19 : X E F T Q (f + 1) (.code (.cond o a b)) (ks) s = XB (X E F T Q f) (ev s.t o) ks (.code a) ⟨setC s.t o true, s.h, s.b, s.n⟩ (.code b) ⟨setC s.t o false, s.h, s.b, s.n⟩ := by
 simp only [X_eq]
 rfl
theorem X_20 : X E F T Q (f + 1) (.code (.block id a)) (ks) s = X E F T Q f (.code a) (.blk id :: ks) s := by
 simp only [X_eq]
 rfl
theorem X_21 : X E F T Q (f + 1) (.code (.exit id)) (ks) s = X E F T Q f (.exit id) ks s := by
 simp only [X_eq]
 rfl
theorem X_22 : X E F T Q (f + 1) (.code .ret) (ks) s = Q .ret s := by
 simp only [X_eq]
 rfl
theorem X_23 : X E F T Q (f + 1) (.code (.refuse w3)) (ks) s = False := by
 simp only [X_eq]
 rfl
theorem X_24 : X E F T Q (f + 1) (.code (.loop c)) (ks) s = AW P F.tb T (.loop c) (XQ (X E F T Q f) Q ks) s := by
 simp only [X_eq]
 rfl
end
end
end Go.R
namespace Go.R
section
variable {P : Program} {ops : Array Oper} {md : Region.Mode} {Q : Exit → Act → World → Prop}
def QY (P : Program) (ops : Array Oper) (C : World → Prop) (o : Oper) (v : Value) (a : Act) : Prop :=
 (Region.wanted o (yielded ops a.tmps) = true ∧ ∀ w, C w → (execOp a.eval o).run P w = .ok (.value v) w) ∨ (Region.wanted o (yielded ops a.tmps) = false ∧ v = undef)
theorem QY.of_same {C : World → Prop} {o : Oper} {v : Value} {a a' : Act} (hy : QY P ops C o v a) (he : execOp a'.eval o = execOp a.eval o)
 (hw : Region.wanted o (yielded ops a'.tmps) = Region.wanted o (yielded ops a.tmps)) : QY P ops C o v a' := by
 unfold QY at *
 rw [he, hw]
 exact hy
theorem QY.wpOp {C : World → Prop} {i : Nat} {o : Oper} {v : Value} {a : Act} {w : World} (hi : ops[i]? = some o) (hy : QY P ops C o v a) (hC : C w) {K : Act → World → Prop} (h : K (a.put o.dst v) w) : wpOp P ops Q i K a w := by
 unfold Go.wpOp
 simp only [hi]
 rcases hy with ⟨hw, hv⟩ | ⟨hw, rfl⟩
 · simp only [hw, if_true]
   refine .inl ?_
   unfold Oper.wp
   rw [hv w hC]
   exact h
 · simp only [hw, Bool.false_eq_true, if_false]
   exact h
def wpM (P : Program) (md : Region.Mode) (ops : Array Oper) (G : Array Bool → World → Prop) (Q : Exit → Act → World → Prop) : Nat → Array Bool → Act → World → Prop
 | 0, listed, a, w => G listed w ∧ Region.ready md ops listed = [] ∧ Q .normal a w
 | fuel + 1, listed, a, w => G listed w ∧ (Region.ready md ops listed = [] → Q .normal a w) ∧ ∀ i ∈ Region.ready md ops listed, wpOp P ops Q i (wpM P md ops G Q fuel (listed.setIfInBounds i true)) a w
theorem wpM_word {G : Array Bool → World → Prop} : ∀ {fuel : Nat} {listed : Array Bool} {a : Act} {w : World}, wpM P md ops G Q fuel listed a w → G listed w
 | 0, _, _, _, h => h.1
 | _ + 1, _, _, _, h => h.1
theorem wpAny_of_M {G : Array Bool → World → Prop} : ∀ (fuel : Nat) (listed : Array Bool) (a : Act) (w : World), wpM P md ops G Q fuel listed a w → wpAny P md ops Q fuel listed a w
 | 0, _, _, _, h => h.2
 | fuel + 1, _, _, _, h => ⟨h.2.1, fun i hi => wpOp_mono (wpAny_of_M fuel _) (h.2.2 i hi)⟩
theorem wpOp_swap {C : World → Prop} {j : Nat} {oi oj : Oper} {v : Value} (hj : ops[j]? = some oj) (hap : oi.apart ops oj = true)
 (hsi : ∀ cs b, oi.op ≠ .select cs b) (hsj : ∀ cs b, oj.op ≠ .select cs b) {K : Act → World → Prop} {a : Act} {w : World}
 (hy : QY P ops C oi v a) (h : wpOp P ops (NoPanic Q) j K (a.put oi.dst v) w) :
 wpOp P ops (NoPanic Q) j (fun a' w' => QY P ops C oi v a' ∧ K (a'.put oi.dst v) w') a w := by
 obtain ⟨h1, h2, h3⟩ := Oper.apart_spec hap
 have keep : ∀ (a : Act), QY P ops C oi v a → ∀ u, QY P ops C oi v (a.put oj.dst u) := fun a hy u =>
  hy.of_same (execOp_put oi hsi a oj.dst u h3) (wanted_put oi a oj.dst u h3)
 unfold wpOp at *
 simp only [hj] at *
 rw [wanted_put oj a oi.dst v h1] at h
 split
 · rename_i hw
   simp only [hw, if_true] at h
   rcases h with h | ⟨h, hl⟩
   · refine .inl ?_
     unfold Oper.wp at *
     rw [execOp_put oj hsj a oi.dst v h1] at h
     generalize (execOp a.eval oj).run P w = r at *
     cases r with
     | ok n w' =>
       cases n <;> simp only [Oper.upon] at h ⊢
       case value u => exact ⟨keep a hy u, by rw [← Act.put_comm a v u h2]; exact h⟩
       case skip => exact ⟨keep a hy _, by rw [← Act.put_comm a v undef h2]; exact h⟩
       case enter f args =>
        refine Calls.mono h fun e w'' he => ?_
        cases e with
        | returned u => exact ⟨keep a hy u, by rw [← Act.put_comm a v u h2]; exact he⟩
        | panicked ch => exact he.elim
        | outgrown => exact he
       case row row args => exact Rows.mono h fun u w'' he => ⟨keep a hy u, by rw [← Act.put_comm a v u h2]; exact he⟩
       case defer d =>
        have e1 : Act.eval { a with defers := d :: a.defers } = a.eval := by
         funext x
         cases x <;> rfl
        have hy' : QY P ops C oi v { a with defers := d :: a.defers } := hy.of_same (by rw [e1]) rfl
        refine ⟨keep _ hy' _, ?_⟩
        rw [← Act.put_comm _ v undef h2]
        rw [Act.put_defers] at h
        exact h
     | halt x w' => cases x <;> simp only [Oper.upon] at h ⊢ <;> exact h
   · refine .inr ⟨?_, hl⟩
     unfold Oper.asks at *
     rw [execOp_put oj hsj a oi.dst v h1] at h
     exact h
 · rename_i hw
   simp only [hw] at h
   exact ⟨keep a hy _, by rw [← Act.put_comm a v undef h2]; exact h⟩
inductive Way (md : Region.Mode) (ops : Array Oper) : Nat → Nat → Prop
 | refl (i : Nat) : Way md ops i i
 | step (i j k : Nat) (oj : Oper) (hj : ops[j]? = some oj) (hw : ∃ e ∈ oj.after, Region.binds md e = true ∧ e.on = i) (h : Way md ops j k) : Way md ops i k
def Held (md : Region.Mode) (ops : Array Oper) (i : Nat) (listed : Array Bool) : Prop := ∀ k, Way md ops i k → listed.getD k true = false
theorem Held.set {i j : Nat} {listed : Array Bool} (h : Held md ops i listed) (hj : j ∈ Region.ready md ops listed) (hne : j ≠ i) : Held md ops i (listed.setIfInBounds j true) := by
 have key : ∀ a k, Way md ops a k → (∀ k', Way md ops a k' → listed.getD k' true = false) → j ≠ a → (listed.setIfInBounds j true).getD k true = false := by
  intro a k hw
  induction hw with
  | refl a => intro hh hja; rw [getD_set_ne true hja]; exact hh a (.refl a)
  | step a b c ob hb hwt hr ih =>
    intro hh hja
    refine ih (fun k' hk' => hh k' (.step a b k' ob hb hwt hk')) ?_
    rintro rfl
    obtain ⟨_, o', ho', hall⟩ := mem_ready.1 hj
    obtain ⟨e, he, hbn, hon⟩ := hwt
    rw [hb] at ho'
    cases ho'
    have h1 := hall e he hbn
    have h0 := hh a (.refl a)
    rw [hon] at h1
    rcases Nat.lt_or_ge a listed.size with h' | h'
    · simp [h'] at h0 h1; rw [h0] at h1; cases h1
    · simp [Array.getElem?_eq_none h'] at h1
 exact fun k hk => key i k hk h hne
theorem wpM_first {C : World → Prop} {G : Array Bool → World → Prop} {i : Nat} {oi : Oper} {v : Value} (hi : ops[i]? = some oi) (hsel : ∀ (j : Nat) (o : Oper) cs b, ops[j]? = some o → o.op ≠ .select cs b)
 (hG : ∀ listed w, Held md ops i listed → G (listed.setIfInBounds i true) w → G listed w ∧ C w) :
 ∀ (fuel : Nat) (listed : Array Bool) (a : Act) (w : World),
   (∀ j oj, ops[j]? = some oj → j ≠ i → listed.getD j true = false → (∀ e ∈ oj.after, Region.binds md e = true → e.on ≠ i) → oi.apart ops oj = true) →
   i ∈ Region.ready md ops listed → Held md ops i listed → QY P ops C oi v a →
   wpM P md ops G (NoPanic Q) fuel (listed.setIfInBounds i true) (a.put oi.dst v) w → wpM P md ops G (NoPanic Q) (fuel + 1) listed a w := by
 intro fuel
 induction fuel with
 | zero =>
   intro listed a w _ hr hh hy H
   obtain ⟨g1, g2⟩ := hG listed w hh H.1
   refine ⟨g1, fun h => (by rw [h] at hr; cases hr), fun j hj => ?_⟩
   by_cases hji : j = i
   · subst hji; exact hy.wpOp hi g2 H
   · have := ready_mono hj hji
     rw [H.2.1] at this
     cases this
 | succ fuel ih =>
   intro listed a w hfree hr hh hy H
   obtain ⟨g1, g2⟩ := hG listed w hh (wpM_word H)
   refine ⟨g1, fun h => (by rw [h] at hr; cases hr), fun j hj => ?_⟩
   by_cases hji : j = i
   · subst hji; exact hy.wpOp hi g2 H
   · have h1 := H.2.2 j (ready_mono hj hji)
     obtain ⟨hjun, oj, hoj, hall⟩ := mem_ready.1 hj
     have hnot : ∀ e ∈ oj.after, Region.binds md e = true → e.on ≠ i := fun e he hb heq => by
      have h1 := hall e he hb
      have h0 := (mem_ready.1 hr).1
      rw [heq] at h1
      rcases Nat.lt_or_ge i listed.size with h' | h'
      · simp [h'] at h0 h1; rw [h0] at h1; cases h1
      · simp [Array.getElem?_eq_none h'] at h1
     have h2 := wpOp_swap hoj (hfree j oj hoj hji hjun hnot) (fun cs b => hsel i oi cs b hi) (fun cs b => hsel j oj cs b hoj) hy h1
     have hfree' : ∀ k ok, ops[k]? = some ok → k ≠ i → (listed.setIfInBounds j true).getD k true = false →
      (∀ e ∈ ok.after, Region.binds md e = true → e.on ≠ i) → oi.apart ops ok = true := fun k ok hk hki hun hno => by
      refine hfree k ok hk hki ?_ hno
      by_cases hjk : j = k
      · subst hjk; exact hjun
      · rw [getD_set_ne true hjk] at hun; exact hun
     refine wpOp_mono (fun a' w' h3 => ih (listed.setIfInBounds j true) a' w' hfree' (ready_mono hr (Ne.symm hji)) (hh.set hj hji) h3.1 ?_) h2
     rw [Array.setIfInBounds_comm _ _ hji]
     exact h3.2
theorem wpM_only {G : Array Bool → World → Prop} {k fuel : Nat} {listed : Array Bool} {a : Act} {w : World} (hr : Region.ready md ops listed = [k]) (hg : G listed w) (h : wpOp P ops Q k (wpM P md ops G Q fuel (listed.setIfInBounds k true)) a w) : wpM P md ops G Q (fuel + 1) listed a w :=
 ⟨hg, fun h0 => (by rw [hr] at h0; cases h0), fun i hi => by rw [hr] at hi; obtain rfl := List.mem_singleton.1 hi; exact h⟩
def blindK : Op → Bool
 | .move _ | .assign _ | .fieldAddr _ _ _ => true
 | _ => false
def Word (C : World → Prop) (D : Option Nat) (listed : Array Bool) (w : World) : Prop := match D with
 | none => C w
 | some d => listed.getD d false = false → C w
def waitsB (ops : Array Oper) (j i : Nat) : Bool := match ops[j]? with
 | some oj => oj.after.any fun e => Region.binds .any e && e.on == i
 | none => false
def wayB (ops : Array Oper) (d : Nat) : Nat → Nat → Bool
 | 0, i => i == d
 | f + 1, i => i == d || (List.range ops.size).any fun j => waitsB ops j i && wayB ops d f j
theorem wayB_way {d : Nat} : ∀ {f i : Nat}, wayB ops d f i = true → Way .any ops i d
 | 0, i, h => by simp [wayB] at h; subst h; exact .refl _
 | f + 1, i, h => by
   simp only [wayB, Bool.or_eq_true, beq_iff_eq, List.any_eq_true, Bool.and_eq_true] at h
   rcases h with rfl | ⟨j, _, hw, h⟩
   · exact .refl _
   · unfold waitsB at hw
     split at hw
     · rename_i oj hj
       obtain ⟨e, he, hb⟩ := Array.any_eq_true'.1 hw
       simp only [Bool.and_eq_true, beq_iff_eq] at hb
       exact .step _ _ _ oj hj ⟨e, he, hb.1, hb.2⟩ (wayB_way h)
     · cases hw
def mixB (ops : Array Oper) (D : Option Nat) : List (Bool × Nat) → Array Bool → Bool
 | [], listed => (Region.ready .any ops listed).isEmpty
 | (q, k) :: r, listed => (match ops[k]? with
   | some o => if q then (Region.ready .any ops listed).contains k && Region.free .any ops listed k && (match D with
      | some d => d != k && (blindK o.op || wayB ops d ops.size k)
      | none => true)
     else Region.ready .any ops listed == [k]
   | none => false) && mixB ops D r (listed.setIfInBounds k true)
def wpMix (P : Program) (ops : Array Oper) (C : World → Prop) (D : Option Nat) (Q : Exit → Act → World → Prop) : List (Bool × Nat) → Array Bool → Act → World → Prop
 | [], listed, a, w => Word C D listed w ∧ Q .normal a w
 | (q, k) :: r, listed, a, w => match ops[k]? with
   | none => False
   | some o => if q then ∃ v, QY P ops (fun w' => blindK o.op = true ∨ C w') o v a ∧ wpMix P ops C D Q r (listed.setIfInBounds k true) (a.put o.dst v) w
     else Word C D listed w ∧ wpOp P ops Q k (wpMix P ops C D Q r (listed.setIfInBounds k true)) a w
theorem held_of_closed {listed : Array Bool} {i : Nat} (hcl : ∀ k o, ops[k]? = some o → listed.getD k true = true → ∀ e ∈ o.after, Region.binds .any e = true → listed.getD e.on false = true) (hsz : listed.size = ops.size) (hi : listed.getD i true = false) : Held .any ops i listed := by
 intro k hk
 induction hk with
 | refl i => exact hi
 | step i j k oj hj hw _ ih =>
   refine ih ?_
   cases hlj : listed.getD j true with
   | false => rfl
   | true =>
     obtain ⟨e, he, hb, hon⟩ := hw
     have h1 := hcl j oj hj hlj e he hb
     rw [hon] at h1
     rcases Nat.lt_or_ge i listed.size with h' | h'
     · simp [h'] at hi h1; rw [hi] at h1; cases h1
     · simp [Array.getElem?_eq_none h'] at h1
theorem wpM_of_mix {C : World → Prop} {D : Option Nat} (hsel : Region.noSelect ops = true) : ∀ (ord : List (Bool × Nat)) (listed : Array Bool) (a : Act) (w : World),
 mixB ops D ord listed = true → (∀ k o, ops[k]? = some o → listed.getD k true = true → ∀ e ∈ o.after, Region.binds .any e = true → listed.getD e.on false = true) → listed.size = ops.size →
 wpMix P ops C D (NoPanic Q) ord listed a w → wpM P .any ops (Word C D) (NoPanic Q) ord.length listed a w
 | [], listed, a, w, hB, _, _, h => ⟨h.1, by simpa [mixB] using hB, h.2⟩
 | (q, k) :: r, listed, a, w, hB, hcl, hsz, h => by
   simp only [mixB, Bool.and_eq_true] at hB
   obtain ⟨hB, hB'⟩ := hB
   unfold wpMix at h
   cases ho : ops[k]? with
   | none => simp [ho] at h
   | some o =>
     simp only [ho] at h hB
     have hnext : ∀ k' o', ops[k']? = some o' → (listed.setIfInBounds k true).getD k' true = true → Region.ready .any ops listed ≠ [] → k ∈ Region.ready .any ops listed → ∀ e ∈ o'.after, Region.binds .any e = true → (listed.setIfInBounds k true).getD e.on false = true := by
      intro k' o' ho' hl _ hr e he hb
      by_cases hk : k = k'
      · subst hk
        obtain ⟨_, o2, h2, hall⟩ := mem_ready.1 hr
        rw [ho'] at h2
        cases h2
        exact getD_set_true (hall e he hb)
      · rw [getD_set_ne true hk] at hl
        exact getD_set_true (hcl k' o' ho' hl e he hb)
     cases q with
     | false =>
       simp only [Bool.false_eq_true, if_false] at h hB
       have hr : Region.ready .any ops listed = [k] := by simpa using hB
       have hkr : k ∈ Region.ready .any ops listed := by rw [hr]; simp
       refine wpM_only hr h.1 (wpOp_mono (fun a' w' h' => wpM_of_mix hsel r _ a' w' hB' (fun k' o' ho' hl => hnext k' o' ho' hl (by rw [hr]; simp) hkr) (by simp [hsz]) h') h.2)
     | true =>
       simp only [if_true, Bool.and_eq_true] at h hB
       obtain ⟨⟨hr, hfree⟩, hD⟩ := hB
       have hkr : k ∈ Region.ready .any ops listed := by simpa using hr
       obtain ⟨v, hy, hK⟩ := h
       have hrest := wpM_of_mix hsel r _ _ w hB' (fun k' o' ho' hl => hnext k' o' ho' hl (fun h0 => by rw [h0] at hkr; cases hkr) hkr) (by simp [hsz]) hK
       have hheld : Held .any ops k listed := held_of_closed hcl hsz (mem_ready.1 hkr).1
       refine wpM_first ho (Region.noSelect_spec hsel) (fun l w hh hg => ?_) r.length listed a w (fun j oj hj hne hun hno => Region.free_spec ho hfree j oj hj hne hun hno) hkr hheld hy hrest
       cases D with
       | none => exact ⟨hg, .inr hg⟩
       | some d =>
         simp only [Bool.and_eq_true, bne_iff_ne, ne_eq, Bool.or_eq_true, beq_iff_eq] at hD
         obtain ⟨hdk, hD⟩ := hD
         simp only [Word] at hg ⊢
         rw [getD_set_ne false (Ne.symm hdk)] at hg
         refine ⟨hg, ?_⟩
         rcases hD with hD | hD
         · exact .inl hD
         · have h1 := hh d (wayB_way hD)
           refine .inr (hg ?_)
           rcases Nat.lt_or_ge d l.size with h' | h'
           · simp [h'] at h1 ⊢; exact h1
           · simp [Array.getElem?_eq_none h'] at h1
theorem wp_region_mix {id : Nat} {C : World → Prop} {D : Option Nat} {ord : List (Bool × Nat)} {a : Act} {w : World} (hm : P.follows .mixedOrders = true) (hsel : Region.noSelect ops = true) (hlen : ord.length = ops.size)
 (hB : mixB ops D ord (Array.replicate ops.size false) = true) (h : wpMix P ops C D (NoPanic Q) ord (Array.replicate ops.size false) a { w with drawn := w.drawn + 1 }) : (Code.region id ops true).wp P Q a w := by
 have H := wpM_of_mix hsel ord _ a _ hB (fun k o ho hl => by
  have hk := (Array.getElem?_eq_some_iff.1 ho).1
  simp [hk] at hl) (by simp) h
 rw [hlen] at H
 exact wp_region_noPanic (wp_region_any hm (wpAny_of_M (G := Word C D) _ _ _ _ H))
end
end Go.R
namespace Go.R
open Go.RowKit
section
variable {P : Program} {C : Tb} {c c0 c' : Cx} {s s1 s2 : St} {a : Act} {w w0 w' : World} {h h0 h' : AH} {n n' : Nat} {T : List Nat} {ops : Array Oper} {Q : Exit → Act → World → Prop} {Cl : World → Prop} {D : Option Nat}
theorem afield_blind {v : Value} {x : AV} {ty : TypeId} {f : Nat} {K : AV → Prop} (r : ARep c h w v x) (hK : afield P ty f x K) :
 ∃ u y, (∀ w', (do pure (Next.value (← Instr.fieldAt ty v f)) : Sem Next).run P w' = .ok (.value u) w') ∧ ARep c h w u y ∧ K y := by
 unfold afield at hK
 split at hK
 · rename_i off ft hf
   obtain ⟨fs, g, hu, hg, rfl, rfl⟩ := und_of_field hf
   obtain ⟨hi, hz, hK⟩ := hK
   cases r with
   | p j o cs hb =>
     refine ⟨.pointer (some ⟨c.β j, o + g.offset, none⟩), _, fun w' => run_next _ _ _ ?_, .p _ _ cs hb, hK⟩
     simp [Instr.fieldAt, Instr.sureAddr, run_underlying hu, hg, fieldPlace, run_sizeP hi, hz, addr_add]
   | e b o cs q hcl hr =>
     refine ⟨.pointer (some ⟨b, o + g.offset, none⟩), _, fun w' => run_next _ _ _ ?_, .e _ _ _ (fun j => q (g.offset + j)) (fun j y hj => ?_) (fun j y hj => ?_), hK⟩
     · simp [Instr.fieldAt, Instr.sureAddr, run_underlying hu, hg, fieldPlace, run_sizeP hi, hz, addr_add]
     · rw [List.getElem?_drop] at hj
       have := hcl _ y hj
       rw [Nat.add_assoc]; exact this
     · rw [List.getElem?_drop] at hj
       exact hr _ y hj
   | _ => exact hK.elim
 · exact hK.elim
theorem ard_blind (hs : SRep c s a w) {o : Oper} {K : AV → Prop} (hb : blindK o.op = true) (hK : ard P o s.t s.h K) : ∃ v r, (∀ w', (execOp a.eval o).run P w' = .ok (.value v) w') ∧ ARep c s.h w v r ∧ K r := by
 have hr := ev_rep hs
 unfold ard at hK
 unfold blindK at hb
 split at hb
 · rename_i x hop
   simp only [hop] at hK
   exact ⟨a.eval x, _, fun w' => by simp [execOp, hop], hr x, hK⟩
 · rename_i x hop
   simp only [hop] at hK
   exact ⟨a.eval x, _, fun w' => by simp [execOp, hop], hr x, hK⟩
 · rename_i ty x f hop
   simp only [hop] at hK
   simp only [execOp, hop]
   exact afield_blind (hr x) hK
 · cases hb
def noCall (o : Oper) : Bool := match o.op with
 | .call c => match c.callee with
   | .builtin _ => true
   | _ => false
 | _ => true
theorem quiet_QY (I : SI T c0 h0 w0 c s a w) {o : Oper} {K : AV → Prop} (hg : o.guard = none) (hn : noCall o = true) (hK : aopQ P C o s.t s.h s.n K) :
 ∃ v r, QY P ops (fun w' => blindK o.op = true ∨ Same w w') o v a ∧ ARep c s.h w v r ∧ K r := by
 have hw : Region.wanted o (yielded ops a.tmps) = true := by simp [Region.wanted, hg]
 have hK : ard P o s.t s.h K := by
  unfold aopQ at hK
  unfold noCall at hn
  cases hop : o.op with
  | call cl =>
    simp only [hop] at hK hn
    cases hc : cl.callee with
    | builtin b => simp only [hc] at hK; exact hK
    | value f => simp [hc] at hn
    | invoke r m => simp [hc] at hn
  | _ => simp only [hop] at hK; exact hK
 by_cases hb : blindK o.op = true
 · obtain ⟨v, r, h1, h2, h3⟩ := ard_blind I.srep hb hK
   exact ⟨v, r, .inl ⟨hw, fun w' _ => h1 w'⟩, h2, h3⟩
 · obtain ⟨v, r, h1, h2, h3⟩ := ard_sound I.srep hK
   exact ⟨v, r, .inl ⟨hw, fun w' q => h1 w' (q.resolve_left hb)⟩, h2, h3⟩
def opsAt (ops : Array Oper) (ks : List Nat) : List Oper := ks.filterMap fun k => ops[k]?
def setAll (listed : Array Bool) (ks : List Nat) : Array Bool := ks.foldl (fun l k => l.setIfInBounds k true) listed
def plainB (ops : Array Oper) (call : Bool) (ks : List Nat) : Bool := ks.all fun k => match ops[k]? with
 | some o => o.guard.isNone && (call || noCall o)
 | none => false
theorem plainB_cons {call : Bool} {k : Nat} {ks : List Nat} (h : plainB ops call (k :: ks) = true) : ∃ o, ops[k]? = some o ∧ o.guard = none ∧ (call = false → noCall o = true) ∧ opsAt ops (k :: ks) = o :: opsAt ops ks ∧ plainB ops call ks = true := by
 simp only [plainB, List.all_cons, Bool.and_eq_true] at h
 obtain ⟨h1, h2⟩ := h
 cases ho : ops[k]? with
 | none => simp [ho] at h1
 | some o =>
   simp only [ho, Bool.and_eq_true, Option.isNone_iff_eq_none, Bool.or_eq_true] at h1
   exact ⟨o, rfl, h1.1, fun e => by rcases h1.2 with q | q; rw [e] at q; cases q; exact q, by simp [opsAt, ho], h2⟩
theorem mix_q {K : St → Prop} {rest : List (Bool × Nat)} : ∀ (qs : List Nat) (s : St) (a : Act) (listed : Array Bool), SI T c0 h0 w0 c s a w → plainB ops false qs = true → xopsQ P C ops (opsAt ops qs) s K →
 (∀ s' a', SI T c0 h0 w0 c s' a' w → s'.b = s.b → s'.h = s.h → s'.n = s.n → s'.t.length = s.t.length → K s' → wpMix P ops (Same w) D Q rest (setAll listed qs) a' w) → wpMix P ops (Same w) D Q (qs.map (fun k => (true, k)) ++ rest) listed a w
 | [], s, a, listed, I, _, hK, hn => hn s a I rfl rfl rfl rfl hK
 | k :: qs, s, a, listed, I, hp, hK, hn => by
   obtain ⟨o, ho, hg, hnc, hat, hp'⟩ := plainB_cons hp
   rw [hat] at hK
   simp only [xopsQ, hg] at hK
   obtain ⟨v, r, h1, h2, h3⟩ := quiet_QY (ops := ops) I hg (hnc rfl) (xopQ_aopQ hK)
   simp only [List.map_cons, List.cons_append, wpMix, ho, if_true]
   refine ⟨v, h1, ?_⟩
   refine mix_q qs _ _ _ (I.next (d := o.dst) (v := v) I.srep.wd (Ext.refl _ _ _) (Fr.refl _ _ _ _) h2 (Nat.le_refl _)) hp' h3 fun s' a' I' e1 e2 e3 e4 hK' => ?_
   exact hn s' a' I' e1 e2 e3 (e4.trans (putT_length _ _ _)) hK'
theorem mix_step (hC : TbOk P C) (I : SI T c0 h0 w0 c s a w) {k : Nat} {o : Oper} {listed : Array Bool} {rest : List (Bool × Nat)} (ho : ops[k]? = some o) (hg : o.guard = none) {Kx : AV → AH → Nat → Prop} (hx : xop P C o.op o.type s.t s.h s.n (may T s.b) Kx) (hw : Word Cl D listed w)
 (hn : ∀ c' v r h' n' w', Kx r h' n' → SI T c0 h0 w0 c' ⟨putT s.t o.dst r, h', s.b, n'⟩ (a.put o.dst v) w' → wpMix P ops Cl D Q rest (listed.setIfInBounds k true) (a.put o.dst v) w') : wpMix P ops Cl D Q ((false, k) :: rest) listed a w := by
 simp only [wpMix, ho, Bool.false_eq_true, if_false]
 refine ⟨hw, ?_⟩
 unfold wpOp
 simp only [ho]
 rw [if_pos (by simp [Region.wanted, hg])]
 exact .inl (aop_wp hC I (xop_aop hx) hn)
theorem mix_c (hC : TbOk P C) {K : St → Prop} {rest : List (Bool × Nat)} {Wi : Array Bool → Prop} (h1 : ∀ listed c s a w, SI T c0 h0 w0 c s a w → Wi listed → Word Cl D listed w) (h2 : ∀ listed k, Wi listed → Wi (listed.setIfInBounds k true)) :
 ∀ (ks : List Nat) (c : Cx) (s : St) (a : Act) (w : World) (listed : Array Bool), SI T c0 h0 w0 c s a w → Wi listed → plainB ops true ks = true → xops P C T ops (opsAt ops ks) s K →
 (∀ c' s' a' w', SI T c0 h0 w0 c' s' a' w' → s'.b = s.b → s'.t.length = s.t.length → K s' → wpMix P ops Cl D Q rest (setAll listed ks) a' w') → wpMix P ops Cl D Q (ks.map (fun k => (false, k)) ++ rest) listed a w
 | [], c, s, a, w, listed, I, _, _, hK, hn => hn c s a w I rfl rfl hK
 | k :: ks, c, s, a, w, listed, I, hWi, hp, hK, hn => by
   obtain ⟨o, ho, hg, _, hat, hp'⟩ := plainB_cons hp
   rw [hat] at hK
   simp only [xops, hg] at hK
   refine mix_step hC I ho hg hK (h1 _ _ _ _ _ I hWi) fun c' v r h' n' w' hr I' => ?_
   refine mix_c hC h1 h2 ks _ _ _ _ _ I' (h2 _ _ hWi) hp' hr fun c2 s2 a2 w2 I2 e1 e2 hK2 => ?_
   exact hn c2 s2 a2 w2 I2 e1 (e2.trans (putT_length _ _ _)) hK2
theorem word_of {listed : Array Bool} (h : Cl w) : Word Cl D listed w := by
 cases D with
 | none => exact h
 | some d => exact fun _ => h
theorem setAll_size (listed : Array Bool) : ∀ ks : List Nat, (setAll listed ks).size = listed.size
 | [] => rfl
 | k :: ks => by
   show (setAll (listed.setIfInBounds k true) ks).size = _
   rw [setAll_size _ ks]
   simp
theorem setAll_keep {d : Nat} : ∀ (ks : List Nat) {listed : Array Bool}, listed.getD d false = true → (setAll listed ks).getD d false = true
 | [], _, h => h
 | k :: ks, listed, h => setAll_keep ks (listed := listed.setIfInBounds k true) (getD_set_true h)
theorem AW.mix {id : Nat} {Q : Exit → St → Prop} (qs cs1 cs2 : List Nat) (hm : P.follows .mixedOrders = true) (hsel : Region.noSelect ops = true) (hlen : qs.length + (cs1.length + cs2.length) = ops.size)
 (hp1 : plainB ops false qs = true) (hp2 : plainB ops true cs1 = true) (hp3 : plainB ops true cs2 = true)
 (hB : mixB ops cs2.head? (qs.map (fun k => (true, k)) ++ (cs1.map (fun k => (false, k)) ++ (cs2.map (fun k => (false, k)) ++ []))) (Array.replicate ops.size false) = true)
 (hl : s.t.length ≤ 1000000) (h : xopsQ P C ops (opsAt ops qs) s fun s1 => s1.t.length ≤ 1000000 → xops P C [] ops (opsAt ops cs1) ⟨s1.t, s1.h, s1.n, s1.n⟩ fun s2 => s2.t.length ≤ 1000000 → xops P C T ops (opsAt ops cs2) ⟨s2.t, s2.h, s.b, s2.n⟩ fun s3 => s3.t.length ≤ 1000000 → Q .normal s3) : AW P C T (.region id ops true) Q s := by
 intro c0 h0 w0 c a w hC I
 have I1 := I.drew
 refine wp_region_mix (C := Same { w with drawn := w.drawn + 1 }) (D := cs2.head?) hm hsel (by simp; omega) hB ?_
 refine mix_q qs s a _ I1 hp1 h fun s1 a1 J1 e1 e2 e3 e4 hK => ?_
 have base : SI [] c s1.h { w with drawn := w.drawn + 1 } c ⟨s1.t, s1.h, s1.n, s1.n⟩ a1 { w with drawn := w.drawn + 1 } :=
  ⟨⟨J1.srep.size, J1.srep.tmp, J1.srep.defers, J1.srep.wd⟩, Ext.refl _ _ _, Fr.refl _ _ _ _, fun i hi => J1.srep.wd.new i hi, Nat.le_refl _⟩
 have same : ∀ {c2 : Cx} {s2 : St} {a2 : Act} {w2 : World}, SI [] c s1.h { w with drawn := w.drawn + 1 } c2 s2 a2 w2 → Same { w with drawn := w.drawn + 1 } w2 := fun J b hb => J.fr.far b hb (fun i hi => by cases hi)
 refine mix_c hC (Wi := fun _ => True) (fun listed c s a w J _ => word_of (same J)) (fun _ _ _ => trivial) cs1 _ _ _ _ _ base trivial hp2 (hK (by rw [e4]; exact hl)) fun c2 s2 a2 w2 J2 f1 f2 hK2 => ?_
 have J3 : SI T c0 h0 w0 c2 ⟨s2.t, s2.h, s.b, s2.n⟩ a2 w2 := by
  refine ⟨⟨J2.srep.size, J2.srep.tmp, J2.srep.defers, J2.srep.wd⟩, ?_, ?_, I.new0, ?_⟩
  · have := J1.ext
    exact this.trans J2.ext
  · refine J1.fr.trans (J2.fr.mono fun i hi => by cases hi) J1.ext.size
  · have g1 := J2.le
    have g2 := I.le
    simp only at g1 f1 ⊢
    omega
 have hl3 : s2.t.length = s.t.length := f2.trans e4
 have hK2 := hK2 (by rw [hl3]; exact hl)
 cases cs2 with
 | nil =>
   simp only [List.map_nil, List.nil_append, wpMix]
   refine ⟨word_of (same J2), ?_⟩
   exact ⟨c2, _, J3, rfl, hl3, hK2 (by rw [hl3]; exact hl)⟩
 | cons d ds =>
   obtain ⟨o, ho, hg, _, hat, hp'⟩ := plainB_cons hp3
   rw [hat] at hK2
   simp only [xops, hg] at hK2
   have hd := (Array.getElem?_eq_some_iff.1 ho).1
   simp only [List.map_cons, List.cons_append]
   refine mix_step hC J3 ho hg hK2 (word_of (same J2)) fun c4 v r h' n' w' hr J4 => ?_
   refine mix_c hC (Wi := fun listed => listed.getD d false = true) (fun listed c s a w J hWi => ?_) (fun listed k hWi => getD_set_true hWi) ds _ _ _ _ _ J4 ?_ hp' hr fun c5 s5 a5 w5 J5 g1 g2 hK5 => ?_
   · intro hf
     rw [hWi] at hf
     cases hf
   · have : d < (setAll (setAll (Array.replicate ops.size false) qs) cs1).size := by rw [setAll_size, setAll_size]; simpa using hd
     simp [this]
   · simp only [wpMix]
     refine ⟨?_, c5, s5, J5, g1, g2.trans ((putT_length _ _ _).trans hl3), hK5 (by rw [g2.trans ((putT_length _ _ _).trans hl3)]; exact hl)⟩
     intro hf
     have hin : d < (setAll (setAll (Array.replicate ops.size false) qs) cs1).size := by rw [setAll_size, setAll_size]; simpa using hd
     rw [setAll_keep ds (by simp [hin])] at hf
     cases hf
end
end Go.R
namespace Go.R
section
variable {P : Program} {E : EqT P} {F : Ft} {T : List Nat} {Q : Exit → St → Prop} {s s1 s2 : St} {ops : Array Oper} {cs1 cs2 : List Nat} {b : Nat}
def MX2 (_ : EqT P) (F : Ft) (T : List Nat) (ops : Array Oper) (cs2 : List Nat) (b : Nat) (Q : Exit → St → Prop) (s2 : St) : Prop :=
 xops P F.tb T ops (opsAt ops cs2) ⟨s2.t, s2.h, b, s2.n⟩ fun s3 => s3.t.length ≤ 1000000 → Q .normal s3
def MX1 (E : EqT P) (F : Ft) (T : List Nat) (ops : Array Oper) (cs1 cs2 : List Nat) (b : Nat) (Q : Exit → St → Prop) (s1 : St) : Prop :=
 xops P F.tb [] ops (opsAt ops cs1) ⟨s1.t, s1.h, s1.n, s1.n⟩ fun s2 => s2.t.length ≤ 1000000 → MX2 E F T ops cs2 b Q s2
theorem MX2.of (f : Nat) (hl : s2.t.length ≤ 1000000) (h : X E F T Q f (.ops ops (opsAt ops cs2)) [] ⟨s2.t, s2.h, b, s2.n⟩) : MX2 E F T ops cs2 b Q s2 := by
 rw [X_eq] at h
 exact (Xi_sound f).2.2.1 ops _ [] ⟨s2.t, s2.h, b, s2.n⟩ hl h
theorem MX1.of (f : Nat) (hl : s1.t.length ≤ 1000000) (h : X E F [] (fun _ s2 => MX2 E F T ops cs2 b Q s2) f (.ops ops (opsAt ops cs1)) [] ⟨s1.t, s1.h, s1.n, s1.n⟩) : MX1 E F T ops cs1 cs2 b Q s1 := by
 rw [X_eq] at h
 exact (Xi_sound f).2.2.1 ops _ [] ⟨s1.t, s1.h, s1.n, s1.n⟩ hl h
theorem AW.mixX {id : Nat} (qs cs1 cs2 : List Nat) (f : Nat) (hm : P.follows .mixedOrders = true) (hB : (Region.noSelect ops && (qs.length + (cs1.length + cs2.length) == ops.size) && plainB ops false qs && plainB ops true cs1 && plainB ops true cs2 && mixB ops cs2.head? (qs.map (fun k => (true, k)) ++ (cs1.map (fun k => (false, k)) ++ (cs2.map (fun k => (false, k)) ++ []))) (Array.replicate ops.size false)) = true)
 (hl : s.t.length ≤ 1000000) (h : X E F T (fun _ s1 => MX1 E F T ops cs1 cs2 s.b Q s1) f (.opsQ ops (opsAt ops qs)) [] s) : AW P F.tb T (.region id ops true) Q s := by
 simp only [Bool.and_eq_true, beq_iff_eq] at hB
 obtain ⟨⟨⟨⟨⟨h1, h2⟩, h3⟩, h4⟩, h5⟩, h6⟩ := hB
 refine AW.mix qs cs1 cs2 hm h1 h2 h3 h4 h5 h6 hl ?_
 rw [X_eq] at h
 exact (Xi_sound f).2.2.2.1 ops _ [] _ hl h
end
end Go.R
namespace Go.R
open Go.RowKit
def FsOk (P : Program) (f : FuncId) (S : Fs) : Prop := SpOk P f S.sp
def FtOk (P : Program) (F : Ft) : Prop := ∀ f, FsOk P f (F f)
theorem FtOk.no (P : Program) : FtOk P Ft.no := fun f c h n w vals args K _ _ _ hS => hS.2.elim
theorem FtOk.put {P : Program} {F : Ft} {f : FuncId} {S : Fs} (h : FtOk P F) (hS : FsOk P f S) : FtOk P (F.put f S) := by
 intro g
 unfold Ft.put
 split
 · rename_i e; rw [e]; exact hS
 · exact h g
def AV.le (x y : AV) : Prop := ∀ c h w v, ARep c h w v x → ARep c h w v y
theorem AV.le.refl (x : AV) : AV.le x x := fun _ _ _ _ r => r
theorem AV.le.rows {z : Nat} {x : AV} {xs : List (List DV)} (e : rowsOf z x = some xs) : AV.le x (.d (.sl z xs)) := fun c h w v r => by
 obtain ⟨A, cap, rfl, hd⟩ := rowsOf_rep r e
 exact .d _ _ hd
def leL : List AV → List AV → Prop
 | [], [] => True
 | x :: a, y :: b => AV.le x y ∧ leL a b
 | _, _ => False
theorem leL_rep {c : Cx} {h : AH} {w : World} : ∀ {a b : List AV} {vs : List Value}, leL a b → vs.length = a.length → (∀ (j : Nat) v x, vs[j]? = some v → a[j]? = some x → ARep c h w v x) → vs.length = b.length ∧ ∀ (j : Nat) v x, vs[j]? = some v → b[j]? = some x → ARep c h w v x
 | [], [], vs, _, hl, hr => ⟨hl, hr⟩
 | x :: a, y :: b, [], _, hl, _ => by simp at hl
 | x :: a, y :: b, v :: vs, k, hl, hr => by
   obtain ⟨h1, h2⟩ := leL_rep k.2 (vs := vs) (by simpa using hl) (fun j v x hv hx => hr (j + 1) v x (by simpa using hv) (by simpa using hx))
   refine ⟨by simp [h1], fun j u z hu hz => ?_⟩
   cases j with
   | zero => simp at hu hz; rw [← hu, ← hz]; exact k.1 c h w v (hr 0 v x rfl rfl)
   | succ j => exact h2 j u z (by simpa using hu) (by simpa using hz)
 | [], _ :: _, _, k, _, _ => k.elim
 | _ :: _, [], _, k, _, _ => k.elim
theorem AV.le.agg {a b : List AV} (k : leL a b) : AV.le (.agg a) (.agg b) := fun c h w v r => by
 cases r with
 | agg vs cs hl hr =>
   obtain ⟨h1, h2⟩ := leL_rep k hl hr
   exact .agg vs _ h1 h2
def resO (P : Program) (t : List AV) (h : AH) : List ResultVar → Option (List AV)
 | [] => some []
 | .tmp i :: r => match resO P t h r with
   | some l => some (t.getD i .any :: l)
   | none => none
 | .cell a ty :: r => match cellsOfO h (t.getD a .any) with
   | some cs => match packO P ty cs with
     | some x => match resO P t h r with
       | some l => some (x :: l)
       | none => none
     | none => none
   | none => none
def resN (P : Program) (t : List AV) (h : AH) : List ResultVar → Prop
 | [] => True
 | .tmp _ :: r => resN P t h r
 | .cell a ty :: r => infoP P ty = true ∧ (match cellsOfO h (t.getD a .any) with
   | some cs => packN P ty cs
   | none => False) ∧ resN P t h r
theorem res_ares {P : Program} {s : St} : ∀ {rs : List ResultVar} {l : List AV} {K : List AV → Prop}, resN P s.t s.h rs → resO P s.t s.h rs = some l → K l → ares P s rs K
 | [], l, K, _, e, hK => by simp [resO] at e; subst e; exact hK
 | .tmp i :: r, l, K, hN, e, hK => by
   simp only [resO] at e
   cases hr : resO P s.t s.h r with
   | none => simp [hr] at e
   | some l' => simp [hr] at e; subst e; exact res_ares hN hr (K := fun l => K (s.t.getD i .any :: l)) (by simpa using hK)
 | .cell p ty :: r, l, K, hN, e, hK => by
   obtain ⟨h1, h2, h3⟩ := hN
   simp only [resO] at e
   cases hc : cellsOfO s.h (s.t.getD p .any) with
   | none => simp only [hc] at e; cases e
   | some cs =>
     cases hp : packO P ty cs with
     | none => simp only [hc, hp] at e; cases e
     | some x =>
       cases hr : resO P s.t s.h r with
       | none => simp only [hc, hp, hr] at e; cases e
       | some l' =>
         simp only [hc, hp, hr, Option.some.injEq] at e
         subst e
         simp only [hc] at h2
         refine ⟨h1, ?_⟩
         refine xload_aload ?_
         have hrest := res_ares h3 hr (K := fun l => K (x :: l)) hK
         unfold xload
         unfold cellsOfO at hc
         split at hc
         · rename_i i off hx
           rw [hx]
           split at hc
           · rename_i cs' hb
             cases hc
             simp only [hb]
             exact packO_x (K := fun x => ares P s r fun l => K (x :: l)) h2 hp hrest
           · cases hc
         · rename_i cs' hx
           rw [hx]
           cases hc
           exact packO_x (K := fun x => ares P s r fun l => K (x :: l)) h2 hp hrest
         · cases hc
def FinP (P : Program) (rs : List ResultVar) (n : Nat) (h : AH) (r : AV) (e : Exit) (s : St) : Prop := (match e with
    | .normal => True
    | .ret => True
    | _ => False) ∧ resN P s.t s.h rs ∧ (match resO P s.t s.h rs with
    | some l => wk3 (packR l) r
    | none => False) ∧ agree n h s.h ∧ AV.lt n r
def FinE (P : Program) (rs : List ResultVar) (n : Nat) (h hh : AH) (m : Nat) (r : AV) (e : Exit) (s : St) : Prop := (match e with
    | .normal => True
    | .ret => True
    | _ => False) ∧ resN P s.t s.h rs ∧ (match resO P s.t s.h rs with
    | some l => wk3 (packR l) r
    | none => False) ∧ agree m hh s.h ∧ AV.lt m r ∧ n ≤ m ∧ (∀ i, m ≤ i → hh i = .no) ∧ (∀ i cs, i < m → hh i = .box cs → h i = .box cs ∨ ltL m cs)
structure HOk (m : Nat) (h : AH) : Prop where
 no : ∀ i, m ≤ i → h i = .no
 box : ∀ i cs, h i = .box cs → ltL m cs
theorem ltL_mono {m m' : Nat} (h : m ≤ m') {l : List AV} (q : ltL m l) : ltL m' l := ltL_of fun j x hx => AV.lt_mono h (ltL_get q j x hx)
theorem HOk.mono {m m' : Nat} {h : AH} (a : HOk m h) (hm : m ≤ m') : HOk m' h := ⟨fun i hi => a.no i (Nat.le_trans hm hi), fun i cs hi => ltL_mono hm (a.box i cs hi)⟩
theorem HOk.upd_box {m i : Nat} {h : AH} {cs : List AV} (a : HOk m h) (hi : i < m) (hc : ltL m cs) : HOk m (upd h i (.box cs)) := by
 refine ⟨fun j hj => by rw [upd_ne _ _ (by omega)]; exact a.no j hj, fun j cs' hj => ?_⟩
 by_cases e : j = i
 · subst e; rw [upd_same] at hj; cases hj; exact hc
 · rw [upd_ne _ _ e] at hj; exact a.box j cs' hj
theorem HOk.upd_tok {m i k z : Nat} {h : AH} (a : HOk m h) (hi : i < m) : HOk m (upd h i (.tok k z)) := by
 refine ⟨fun j hj => by rw [upd_ne _ _ (by omega)]; exact a.no j hj, fun j cs' hj => ?_⟩
 by_cases e : j = i
 · subst e; rw [upd_same] at hj; cases hj
 · rw [upd_ne _ _ e] at hj; exact a.box j cs' hj
def wkT : List AV → List AV → Prop
 | [], [] => True
 | x :: a, y :: b => (y = .any ∨ wk3 x y) ∧ wkT a b
 | _, _ => False
theorem wkT_len : ∀ {a b : List AV}, wkT a b → b.length = a.length
 | [], [], _ => rfl
 | _ :: _, _ :: _, k => by simp [wkT_len k.2]
 | [], _ :: _, k => k.elim
 | _ :: _, [], k => k.elim
theorem wkT_get : ∀ {a b : List AV}, wkT a b → ∀ (j : Nat) x y, a[j]? = some x → b[j]? = some y → y = .any ∨ wk3 x y
 | x :: a, y :: b, k, 0, u, v, hu, hv => by simp at hu hv; rw [← hu, ← hv]; exact k.1
 | x :: a, y :: b, k, j + 1, u, v, hu, hv => wkT_get k.2 j u v (by simpa using hu) (by simpa using hv)
 | [], [], _, j, u, v, hu, _ => by simp at hu
 | [], _ :: _, k, _, _, _, _, _ => k.elim
 | _ :: _, [], k, _, _, _, _, _ => k.elim
theorem Wk.of {T : List Nat} {t t1 : List AV} {h h1 : AH} {b n n1 : Nat} (hl : wkT t t1) (ha : agree n1 h1 h) (hok : HOk n1 h1) (hn : n1 ≤ n) (hb : b ≤ n1) (hlt : ltL n1 t1) : Wk T ⟨t, h, b, n⟩ ⟨t1, h1, b, n1⟩ := by
 refine ⟨rfl, wkT_len hl, fun c0 h0 w0 c a w I => ⟨c, ?_⟩⟩
 have hwd : Wd c h1 n1 w := I.srep.wd.forget ha hok.no fun i cs hi hc => hok.box i cs (by rw [← ha i hi]; exact hc)
 have hlow : ∀ i, h0 i ≠ .no → i < n1 := fun i hi => Nat.lt_of_lt_of_le (Nat.lt_of_not_le fun hle => hi (I.new0 i hle)) hb
 refine ⟨⟨by rw [I.srep.size]; exact (wkT_len hl).symm, fun i v y hv hy => ?_, I.srep.defers, hwd⟩, ?_, ⟨I.fr.far, fun i bl hbl hlt' => I.fr.old i bl ?_ hlt'⟩, I.new0, hb⟩
 · have hi : i < t.length := by rw [← wkT_len hl]; exact (List.getElem?_eq_some_iff.1 hy).1
   have hx := List.getElem?_eq_getElem hi
   rcases wkT_get hl i _ y hx hy with rfl | k
   · exact .any v
   · exact (wk3_rep (I.srep.tmp i v _ hv hx) k).agree ha (ltL_get hlt i y hy)
 · refine ⟨I.ext.os, I.ext.tape, I.ext.output, I.ext.size, I.ext.lo, I.ext.cell, I.ext.all, fun i cs hi => ?_, fun i k z hi => ?_⟩
   · obtain ⟨g1, cs', g2⟩ := I.ext.box i cs hi
     exact ⟨g1, cs', (ha i (hlow i (by rw [hi]; simp))).symm.trans g2⟩
   · obtain ⟨k', g1, g2, g3⟩ := I.ext.tok i k z hi
     exact ⟨k', (ha i (hlow i (by rw [hi]; simp))).symm.trans g1, g2, g3⟩
 · have : h1 i ≠ .no := fun e => by simp only [e] at hbl; cases hbl
   have hi : i < n1 := Nat.lt_of_not_le fun hle => this (hok.no i hle)
   have e := ha i hi
   simp only [← e] at hbl
   exact hbl
def LQ {α : Type} (T : List Nat) (S : α → St) (I : α → Prop) (μ : α → Nat) (x : α) (Q : Exit → St → Prop) (e : Exit) (s : St) : Prop := match e with
 | .normal => ∃ x', I x' ∧ Wk T s (S x') ∧ μ x' < μ x
 | .exit id => Q (.exit id) s
 | .ret => Q .ret s
 | _ => False
def fr : List (Nat × AV) → List AV → List AV
 | [], l => l
 | (i, x) :: r, l => fr r (l.set i x)
section
variable {P : Program} {E : EqT P} {F : Ft}
theorem AW.loopJ {α : Type} {T : List Nat} {s : St} {x : Code} {Q : Exit → St → Prop} (S : α → St) (I : α → Prop) (μ : α → Nat) (x0 : α) (h0 : I x0) (hk : Wk T s (S x0)) (f : Nat) (hlen : ∀ x, (S x).t.length ≤ 1000000)
 (round : ∀ a, I a → X E F T (LQ T S I μ a Q) f (.code x) [] (S a)) : AW P F.tb T (.loop x) Q s := by
 refine AW.loop (fun m s1 => ∃ a, I a ∧ s1 = S a ∧ μ a = m) (μ x0) ⟨S x0, hk, x0, h0, rfl, rfl⟩ ?_
 rintro m s' ⟨a, ha, rfl, rfl⟩ _ _
 refine (AW.of_X f (hlen a) (round a ha)).mono fun e s2 _ _ q => ?_
 cases e with
 | normal =>
   obtain ⟨a', h0, h1, h2⟩ := q
   exact ⟨S a', μ a', h1, ⟨a', h0, rfl, rfl⟩, h2⟩
 | exit id => exact q
 | ret => exact q
 | _ => exact q.elim
theorem Wk.same {T : List Nat} {t t1 : List AV} {h : AH} {b n : Nat} (hl : wkT t t1) (hok : HOk n h) (hb : b ≤ n) (hlt : ltL n t1) : Wk T ⟨t, h, b, n⟩ ⟨t1, h, b, n⟩ := Wk.of hl (agree.refl _ _) hok (Nat.le_refl _) hb hlt
theorem FsOk.of_X {f : FuncId} {fn : Func} {code : Code} {S : Fs} (hf : P.funcs[f]? = some fn) (hbody : fn.body = some code) (hn : (fn.name == "runtime.NumGoroutine") = false) {rs : List ResultVar} {nt : Nat} (hrs : fn.results = rs.toArray) (hnt : fn.ntmps = nt) (hF : FtOk P F)
 (H : ∀ args h n r h' n', S.pre args h n → S.run args h n = some (r, h', n') → HOk n h → ∃ args', leL args args' ∧ (nt ≤ 900000 ∧ args'.length ≤ 50000) ∧
   X E F (S.tch args) (FinE P rs n h h' n' r) 4000 (.code code) [] ⟨args' ++ List.replicate (nt - args'.length) .any, h, n, n⟩) : FsOk P f S := by
 subst hnt
 refine SpOk.of_code hf hbody hn hF fun args h n K hS hno hbx => ?_
 have hok : HOk n h := ⟨hno, hbx⟩
 rw [hrs]
 obtain ⟨hpre, hrun⟩ := hS
 obtain ⟨⟨r, h', n'⟩, hr, hK⟩ := onO_iff hrun
 obtain ⟨args', hle, ⟨hl1, hl2⟩, hX⟩ := H args h n r h' n' hpre hr hok
 refine ⟨args', fun c w vs hl hr => leL_rep hle hl hr, ?_⟩
 refine (AW.of_X 4000 (by simp; omega) hX).mono fun e s' _ _ q => ?_
 obtain ⟨q1, q2, q3, q4, q5, q6, q7, q8⟩ := q
 cases hres : resO P s'.t s'.h rs with
 | none => rw [hres] at q3; exact q3.elim
 | some l =>
   rw [hres] at q3
   exact ⟨q1, res_ares q2 hres ⟨n', h', r, q6, q4, q7, q8, q3, q5, hK⟩⟩
theorem FsOk.of_XP {f : FuncId} {fn : Func} {code : Code} {S : Fs} (g : List AV → Option AV) (hf : P.funcs[f]? = some fn) (hbody : fn.body = some code) (hn : (fn.name == "runtime.NumGoroutine") = false) {rs : List ResultVar} {nt : Nat} (hrs : fn.results = rs.toArray) (hnt : fn.ntmps = nt) (hF : FtOk P F)
 (hS : ∀ args h n, S.run args h n = (g args).map fun r => (r, h, n))
 (H : ∀ args h n r, S.pre args h n → g args = some r → HOk n h → ∃ args', leL args args' ∧ (nt ≤ 900000 ∧ args'.length ≤ 50000) ∧
   X E F (S.tch args) (FinP P rs n h r) 4000 (.code code) [] ⟨args' ++ List.replicate (nt - args'.length) .any, h, n, n⟩) : FsOk P f S := by
 subst hnt
 refine SpOk.of_code hf hbody hn hF fun args h n K hS' hno hbx => ?_
 have hok : HOk n h := ⟨hno, hbx⟩
 rw [hrs]
 obtain ⟨hpre, hrun⟩ := hS'
 obtain ⟨⟨r, h', n'⟩, hr, hK⟩ := onO_iff hrun
 rw [hS] at hr
 cases hg : g args with
 | none => simp [hg] at hr
 | some r' =>
   simp only [hg, Option.map_some, Option.some.injEq, Prod.mk.injEq] at hr
   obtain ⟨rfl, rfl, rfl⟩ := hr
   obtain ⟨args', hle, ⟨hl1, hl2⟩, hX⟩ := H args _ _ _ hpre hg hok
   refine ⟨args', fun c w vs hl hr => leL_rep hle hl hr, ?_⟩
   refine (AW.of_X 4000 (by simp; omega) hX).mono fun e s' _ _ q => ?_
   obtain ⟨q1, q2, q3, q4, q5⟩ := q
   cases hres : resO P s'.t s'.h rs with
   | none => rw [hres] at q3; exact q3.elim
   | some l =>
     rw [hres] at q3
     exact ⟨q1, res_ares q2 hres (AFin.pure hno q4 q3 q5 hK)⟩
def Fs.pure (g : List AV → Option AV) : Fs := ⟨fun args h n => (g args).map fun r => (r, h, n), fun _ _ _ => True, fun _ => []⟩
def Fs.pureIf (pre : List AV → Prop) (g : List AV → Option AV) : Fs := ⟨fun args h n => (g args).map fun r => (r, h, n), fun args _ _ => pre args, fun _ => []⟩
theorem FsOk.of_calls {f : FuncId} {fn : Func} {code : Code} {g : List AV → Option AV} {pre : List AV → Prop} (hf : P.funcs[f]? = some fn) (hbody : fn.body = some code) (hn : (fn.name == "runtime.NumGoroutine") = false)
 (H : ∀ args r, pre args → g args = some r → ∃ us x, svals args = some us ∧ (∀ c h w, ARep c h w x r) ∧ ∀ w, Calls P f us.toArray w fun e w' => e = .returned x ∧ Below w.heap.size w w') : FsOk P f (.pureIf pre g) := by
 intro c h n w vals args K hw hl hr hS
 obtain ⟨hpre, hS⟩ := hS
 obtain ⟨q, hq, hK⟩ := onO_iff hS
 refine ⟨Entered.of hf hbody hn, ?_⟩
 simp only [Fs.pureIf] at hq hpre
 cases hg : g args with
 | none => simp [hg] at hq
 | some r =>
   simp only [hg, Option.map_some, Option.some.injEq] at hq
   subst hq
   obtain ⟨us, x, h1, h2, h3⟩ := H args r hpre hg
   rw [svals_rep hl hr h1]
   refine (h3 w).mono fun e w' ⟨he, hb⟩ => ?_
   obtain ⟨g1, g2⟩ := wd_same hw hb
   exact ⟨x, r, c, h, n, he, g1, g2, ⟨fun b hbl _ => hb.block b hbl, fun i b q _ => q⟩, h2 c h w', Nat.le_refl n, hK⟩
end
end Go.R
namespace Go.R
section
variable (n m k : Nat)
theorem natLit (k : Nat) : (OfNat.ofNat k : Int) = ((OfNat.ofNat k : Nat) : Int) := rfl
@[go_sem] theorem bik : ((n : Int) == (no_index (OfNat.ofNat k) : Int)) = (n == OfNat.ofNat k) := by rw [natLit, Bool.eq_iff_iff, beq_iff_eq, beq_iff_eq]; exact Int.ofNat_inj
@[go_sem] theorem bij : ((n : Int) == (m : Int)) = (n == m) := by rw [Bool.eq_iff_iff, beq_iff_eq, beq_iff_eq]; omega
@[go_sem] theorem dlt : decide ((n : Int) < (m : Int)) = decide (n < m) := by simp
@[go_sem] theorem dle : decide ((n : Int) ≤ (m : Int)) = decide (n ≤ m) := by simp
@[go_sem] theorem dltk : decide ((no_index (OfNat.ofNat k) : Int) < (m : Int)) = decide (OfNat.ofNat k < m) := by rw [natLit, decide_eq_decide]; exact Int.ofNat_lt
@[go_sem] theorem dltk' : decide ((m : Int) < (no_index (OfNat.ofNat k) : Int)) = decide (m < OfNat.ofNat k) := by rw [natLit, decide_eq_decide]; exact Int.ofNat_lt
@[go_sem] theorem dlek : decide ((no_index (OfNat.ofNat k) : Int) ≤ (m : Int)) = decide (OfNat.ofNat k ≤ m) := by rw [natLit, decide_eq_decide]; exact Int.ofNat_le
@[go_sem] theorem dlek' : decide ((m : Int) ≤ (no_index (OfNat.ofNat k) : Int)) = decide (m ≤ OfNat.ofNat k) := by rw [natLit, decide_eq_decide]; exact Int.ofNat_le
@[go_sem] theorem tmod_nat : Int.tmod (m : Int) (no_index (OfNat.ofNat k)) = ((m % OfNat.ofNat k : Nat) : Int) := rfl
@[go_sem] theorem tdiv_nat : Int.tdiv (m : Int) (no_index (OfNat.ofNat k)) = ((m / OfNat.ofNat k : Nat) : Int) := rfl
end
attribute [go_sem] XS XQ LQ fr false_imp_iff true_imp_iff imp_self if_true if_false true_and and_true false_and and_false X_1 X_2 X_3 X_4 X_5 X_6 X_7 X_8 X_9 X_10 X_11 X_12 X_13 X_14 X_15 X_16 X_17 X_18 X_19 X_20 X_21 X_22 X_23 X_24 XR XRQ XG_true XG_false XB gdst bT bF opR opQ quietOp oR rdR packO packN cellsOfO loadR fieldO idxR ptrO tupO wrapR okV intR strR binR unR optI cutN cutL cutM slR lenR minR maxR appR appendR callR callQR resR allT isShift ev cellsA oneA aint rowsOf cvals cval lift one putT setC splice List.all_cons List.all_nil Bool.and_true List.length_cons List.length_nil List.replicate List.cons_append List.nil_append List.set_cons_zero List.set_cons_succ List.getD_cons_zero List.getD_cons_succ List.drop_zero List.drop_succ_cons List.take_succ_cons List.take_zero List.head?_cons List.map_cons List.map_nil List.toList_toArray List.getElem?_toArray List.getElem?_cons_zero List.getElem?_cons_succ Option.bind_some upd_same ne_eq not_false_eq_true Nat.succ_ne_zero Bool.false_eq_true Nat.add_zero Nat.zero_add
theorem agree_upd_eq {m : Nat} {h h' : AH} {j : Nat} {x : AO} (hj : m ≤ j) : agree m h (upd h' j x) = agree m h h' := propext ⟨fun a i hi => (upd_ne (f := h') x (show i ≠ j by omega)).symm.trans (a i hi), fun a => a.upd hj⟩
theorem agree_refl_eq (m : Nat) (h : AH) : agree m h h = True := eq_true (agree.refl m h)
theorem wk_d (x : DV) : wk3 (.d x) (.d x) = True := by
 simp only [wk3, wk2]
 unfold wk1
 split <;> simp_all
theorem wk_v {x y : Value} (h : x = y) : wk3 (.d (.v x)) (.d (.v y)) := by rw [h, wk_d]; trivial
theorem wk1_d (x : DV) : wk1 (.d x) (.d x) = True := by
 unfold wk1
 split <;> simp_all
theorem wk1_own (k z : Nat) (xs : List (List DV)) : wk1 (.own k z xs) (.d (.sl z xs)) = True := by simp [wk1]
theorem wk1_nil (z : Nat) : wk1 (.d (.v (.slice none 0 0))) (.d (.sl z [])) = True := by simp [wk1]
attribute [go_sem] agree_upd_eq agree_refl_eq FinP resN resO packR Nat.le_refl Nat.le_add_right AV.lt ltL wk1_d wk1_own wk1_nil wkL wkL2
@[go_sem] theorem upd_up1 (h : AH) (n : Nat) (x : AO) : upd h (n + 1) x n = h n := upd_ne _ _ (by omega)
@[go_sem] theorem upd_dn1 (h : AH) (n : Nat) (x : AO) : upd h n x (n + 1) = h (n + 1) := upd_ne _ _ (by omega)
@[go_sem] theorem upd_up2 (h : AH) (n : Nat) (x : AO) : upd h (n + 1 + 1) x n = h n := upd_ne _ _ (by omega)
@[go_sem] theorem upd_dn2 (h : AH) (n : Nat) (x : AO) : upd h n x (n + 1 + 1) = h (n + 1 + 1) := upd_ne _ _ (by omega)
@[go_sem] theorem upd_up3 (h : AH) (n : Nat) (x : AO) : upd h (n + 1 + 1 + 1) x n = h n := upd_ne _ _ (by omega)
@[go_sem] theorem upd_dn3 (h : AH) (n : Nat) (x : AO) : upd h n x (n + 1 + 1 + 1) = h (n + 1 + 1 + 1) := upd_ne _ _ (by omega)
@[go_sem] theorem upd_up4 (h : AH) (n : Nat) (x : AO) : upd h (n + 1 + 1 + 1 + 1) x n = h n := upd_ne _ _ (by omega)
@[go_sem] theorem upd_dn4 (h : AH) (n : Nat) (x : AO) : upd h n x (n + 1 + 1 + 1 + 1) = h (n + 1 + 1 + 1 + 1) := upd_ne _ _ (by omega)
@[go_sem] theorem upd_up5 (h : AH) (n : Nat) (x : AO) : upd h (n + 1 + 1 + 1 + 1 + 1) x n = h n := upd_ne _ _ (by omega)
@[go_sem] theorem upd_dn5 (h : AH) (n : Nat) (x : AO) : upd h n x (n + 1 + 1 + 1 + 1 + 1) = h (n + 1 + 1 + 1 + 1 + 1) := upd_ne _ _ (by omega)
@[go_sem] theorem upd_up6 (h : AH) (n : Nat) (x : AO) : upd h (n + 1 + 1 + 1 + 1 + 1 + 1) x n = h n := upd_ne _ _ (by omega)
@[go_sem] theorem upd_dn6 (h : AH) (n : Nat) (x : AO) : upd h n x (n + 1 + 1 + 1 + 1 + 1 + 1) = h (n + 1 + 1 + 1 + 1 + 1 + 1) := upd_ne _ _ (by omega)
@[go_sem] theorem upd_up7 (h : AH) (n : Nat) (x : AO) : upd h (n + 1 + 1 + 1 + 1 + 1 + 1 + 1) x n = h n := upd_ne _ _ (by omega)
@[go_sem] theorem upd_dn7 (h : AH) (n : Nat) (x : AO) : upd h n x (n + 1 + 1 + 1 + 1 + 1 + 1 + 1) = h (n + 1 + 1 + 1 + 1 + 1 + 1 + 1) := upd_ne _ _ (by omega)
@[go_sem] theorem rowAt_c0 (x : List DV) (xs : List (List DV)) : rowAt (x :: xs) 0 = x := rfl
@[go_sem] theorem rowAt_c1 (x y : List DV) (xs : List (List DV)) : rowAt (x :: y :: xs) 1 = y := rfl
@[go_sem] theorem rowAt_c2 (x y z : List DV) (xs : List (List DV)) : rowAt (x :: y :: z :: xs) 2 = z := rfl
@[go_sem] theorem toNat_lit (k : Nat) : Int.toNat (no_index (OfNat.ofNat k)) = OfNat.ofNat k := rfl
theorem wk1_refl (x : AV) : wk1 x x = True := by
 unfold wk1
 split <;> simp_all
theorem wkL_refl : ∀ l : List AV, wkL l l = True
 | [] => rfl
 | x :: l => by simp [wkL, wk1_refl, wkL_refl l]
theorem wk2_refl (x : AV) : wk2 x x = True := by
 cases x <;> simp only [wk2, wkL_refl, wk1_refl]
theorem wkL2_refl : ∀ l : List AV, wkL2 l l = True
 | [] => rfl
 | x :: l => by simp [wkL2, wk2_refl, wkL2_refl l]
theorem wk3_refl (x : AV) : wk3 x x = True := by
 cases x <;> simp only [wk3, wkL2_refl, wk2_refl]
attribute [go_sem] wk3_refl wk1_refl
theorem fr_len : ∀ (l : List (Nat × AV)) (t : List AV), (fr l t).length = t.length
 | [], _ => rfl
 | p :: l, t => by simp [fr, fr_len l]
attribute [go_sem] buildO opsAt List.filterMap_cons List.filterMap_nil rowsA toD toDs List.range_zero List.range_succ sval byteRows Option.isSome_some Int.natCast_add Int.cast_ofNat_Int wkT wk_d true_or false_or or_true or_false eq_self
end Go.R
end
