import Derived.Test.YtfhpecgknmfnnaaDoorC5
set_option linter.unusedVariables false
set_option linter.unusedSimpArgs false
section
namespace Go.R
open Go.RowKit
section
variable {P : Program} {C : Tb} {c c0 c' : Cx} {s s1 s2 : St} {a : Act} {w w0 w' : World} {h h0 h' : AH} {n n' : Nat} {T : List Nat} {Q Q' : Exit → St → Prop}
theorem onO_iff {α : Type} {x : Option α} {f : α → Prop} (h : onO x f) : ∃ y, x = some y ∧ f y := by
 cases x with
 | none => exact h.elim
 | some y => exact ⟨y, rfl, h⟩
theorem onB_iff {x : AV} {f : Bool → Prop} (h : onB x f) : ∃ q, x = .d (.v (.bool q)) ∧ f q := by
 unfold onB at h
 split at h
 · exact ⟨_, rfl, h⟩
 · exact h.elim
theorem onBox_iff {x : AO} {f : List AV → Prop} (h : onBox x f) : ∃ cs, x = .box cs ∧ f cs := by
 unfold onBox at h
 split at h
 · exact ⟨_, rfl, h⟩
 · exact h.elim
theorem onTup_iff {x : AV} {f : List AV → Prop} (h : onTup x f) : ∃ cs, x = .tup cs ∧ f cs := by
 unfold onTup at h
 split at h
 · exact ⟨_, rfl, h⟩
 · exact h.elim
theorem xpack_pack {t : TypeId} {cs : List AV} {K : AV → Prop} (h : xpack P t cs K) : pack P t cs K := by
 unfold xpack at h
 unfold pack
 split
 · rename_i hg; rw [if_pos hg] at h; exact h
 · rename_i hg
   rw [if_neg hg] at h
   obtain ⟨x, hx, hK⟩ := onO_iff h
   cases cs with
   | nil => simp at hx
   | cons y r => simp at hx; rw [hx]; exact hK
theorem xload_aload {t : TypeId} {x : AV} {K : AV → Prop} (q : xload P t h x K) : aload P t h x K := by
 unfold xload at q
 split at q
 · obtain ⟨cs, hb, hK⟩ := onBox_iff q
   simp only [aload, hb]
   exact xpack_pack hK
 · exact xpack_pack q
 · exact q.elim
theorem aint_eq {x : AV} {i : Int} (e : aint x = some i) : ∃ k, x = .d (.v (.int k i)) := by
 unfold aint at e
 split at e
 · cases e; exact ⟨_, rfl⟩
 · cases e
theorem xidx_aidx {t : TypeId} {x ix : AV} {K : AV → Prop} (q : xidx P t x ix K) : aidx P t x ix K := by
 obtain ⟨i, hi, q1⟩ := onO_iff q
 clear q
 obtain ⟨k, rfl⟩ := aint_eq hi
 unfold aidx
 simp only
 cases hs : sliceP P t with
 | some e =>
   rw [hs] at q1
   obtain ⟨h1, q⟩ := q1
   obtain ⟨xs, hx, q⟩ := onO_iff q
   exact ⟨h1, by simp only [hx]; exact ⟨q.1.1, q.1.2, q.2⟩⟩
 | none =>
   rw [hs] at q1
   obtain ⟨⟨m, e⟩, ha, h1, q⟩ := onO_iff q1
   simp only [ha]
   refine ⟨h1, ?_⟩
   unfold xarr at q
   split at q
   · exact q
   · exact q.elim
theorem xsl_ard {o : Oper} {ty : TypeId} {x : Operand} {lo hi : Option Operand} {t : List AV} (ho : o.op = .slice ty x lo hi none) {K : AV → Prop} (q : onInt t lo fun lo => onInt t hi fun hi => xsl P ty (ev t x) lo hi K) : ard P o t h K := by
 obtain ⟨vlo, hlo, q⟩ : ∃ v, (lo = none ∧ v = none ∨ ∃ p i k, lo = some p ∧ v = some i ∧ ev t p = .d (.v (.int k i))) ∧ onInt t hi fun hi => xsl P ty (ev t x) v hi K := by
  cases lo with
  | none => exact ⟨none, .inl ⟨rfl, rfl⟩, q⟩
  | some p =>
    obtain ⟨i, hi', q⟩ := onO_iff q
    obtain ⟨k, hk⟩ := aint_eq hi'
    exact ⟨some i, .inr ⟨p, i, k, rfl, rfl, hk⟩, q⟩
 obtain ⟨vhi, hhi, q⟩ : ∃ v, (hi = none ∧ v = none ∨ ∃ p i k, hi = some p ∧ v = some i ∧ ev t p = .d (.v (.int k i))) ∧ xsl P ty (ev t x) vlo v K := by
  cases hi with
  | none => exact ⟨none, .inl ⟨rfl, rfl⟩, q⟩
  | some p =>
    obtain ⟨i, hi', q⟩ := onO_iff q
    obtain ⟨k, hk⟩ := aint_eq hi'
    exact ⟨some i, .inr ⟨p, i, k, rfl, rfl, hk⟩, q⟩
 unfold xsl at q
 unfold ard
 simp only [ho]
 cases hs : sliceP P ty with
 | some e =>
   simp only [hs] at q
   obtain ⟨h1, q⟩ := q
   obtain ⟨xs, hx, q⟩ := onO_iff q
   have fin : aslice P ty (ev t x) (opnd t lo) (opnd t hi) K := by
    unfold aslice
    simp only [hs, hx]
    refine ⟨h1, ?_⟩
    unfold xcut at q
    unfold cutOf
    rcases hlo with ⟨rfl, rfl⟩ | ⟨p, i, k, rfl, rfl, hp⟩ <;> rcases hhi with ⟨rfl, rfl⟩ | ⟨p', i', k', rfl, rfl, hp'⟩
    · exact q
    · simp only [opnd, hp', aint] at q ⊢; exact ⟨q.1.1, q.1.2, q.2⟩
    · simp only [opnd, hp, aint] at q ⊢; exact ⟨q.1.1, q.1.2, q.2⟩
    · simp only [opnd, hp, hp', aint] at q ⊢; exact ⟨q.1.1, q.1.2.1, q.1.2.2, q.2⟩
   split
   · rename_i u hu
     exfalso
     generalize ev t x = v at hx hu
     cases v with
     | d y =>
       cases y with
       | v y => simp [sval] at hu; subst hu; simp [rowsOf] at hx
       | sl => simp [sval] at hu
     | agg cs => simp [rowsOf] at hx
     | _ => simp [sval] at hu
   · exact fin
 | none =>
   simp only [hs] at q
   obtain ⟨h1, q⟩ := q
   have hstr : P.underlying ty = some .string := by
    unfold strP at h1
    split at h1
    · assumption
    · cases h1
   split at q
   · rename_i u hu
     simp only [hu, sval]
     unfold xcut at q
     rcases hlo with ⟨rfl, rfl⟩ | ⟨p, i, k, rfl, rfl, hp⟩ <;> rcases hhi with ⟨rfl, rfl⟩ | ⟨p', i', k', rfl, rfl, hp'⟩
     · refine ⟨.string (u.extract 0 u.size), fun w => ?_, q⟩
       simp [Instr.sliceAt, Instr.slice, Instr.sliceBounds, run_underlying hstr]
     · simp only [hp', sval]
       refine ⟨.string (u.extract 0 i'.toNat), fun w => ?_, q.2⟩
       have : (0 ≤ i' ∧ i' ≤ (u.size : Int)) := q.1
       simp [Instr.sliceAt, Instr.slice, Instr.sliceBounds, Instr.sliceBound, asIntOf, run_underlying hstr, this]
     · simp only [hp, sval]
       refine ⟨.string (u.extract i.toNat u.size), fun w => ?_, q.2⟩
       have : (0 ≤ i ∧ i ≤ (u.size : Int)) := q.1
       simp [Instr.sliceAt, Instr.slice, Instr.sliceBounds, Instr.sliceBound, asIntOf, run_underlying hstr, this]
     · simp only [hp, hp', sval]
       refine ⟨.string (u.extract i.toNat i'.toNat), fun w => ?_, q.2⟩
       have e1 : (0 ≤ i' ∧ i' ≤ (u.size : Int)) := ⟨by have := q.1; omega, q.1.2.2⟩
       have e2 : (0 ≤ i ∧ i ≤ max i' 0) := ⟨q.1.1, by have := q.1; omega⟩
       simp [Instr.sliceAt, Instr.slice, Instr.sliceBounds, Instr.sliceBound, asIntOf, run_underlying hstr, e1, e2]
   · exact q.elim
theorem xbi_ard {o : Oper} {b : Builtin} {cl : Call} (ho : o.op = .call cl) (hc : cl.callee = .builtin b) {t : List AV} {K : AV → Prop} (q : xbi P b cl o.type t K) : ard P o t h K := by
 unfold ard
 simp only [ho, hc]
 unfold xbi at q
 split at q
 · obtain ⟨x, hx, q⟩ := onO_iff q
   obtain ⟨ty, hty, q⟩ := onO_iff q
   have one : cl.args.toList.length = 1 → cl.args.toList = [x] := by
    intro h1
    cases hl : cl.args.toList with
    | nil => rw [hl] at h1; cases h1
    | cons y r =>
      rw [hl] at h1 hx
      simp at h1 hx
      rw [hx, h1]
   split at q
   · rename_i hq
     obtain ⟨h1, h2, hK⟩ := q
     rw [one h2]
     simp only [List.map_cons, List.map_nil, abi, hq, alen, hty, isLen, true_and]
     exact ⟨h1, hK⟩
   · rename_i hq
     obtain ⟨h1, h2, hK⟩ := q
     rw [one h2]
     simp only [List.map_cons, List.map_nil, abi, hq, alen, hty, isLen, true_and]
     exact ⟨h1, hK⟩
   · rename_i u hq
     obtain ⟨h1, h2, hK⟩ := q
     have hstr : P.underlying ty = some .string := by
      unfold strP at h1
      split at h1
      · assumption
      · cases h1
     rw [one h2]
     simp only [List.map_cons, List.map_nil, abi, hq, alen, svals, sval]
     exact ⟨.int .i64 u.size, fun w => by simp [builtin, Builtin.len_, hty, run_underlying hstr, goInt], hK⟩
   · rename_i hq
     obtain ⟨h1, h2, hK⟩ := q
     obtain ⟨e, he⟩ := Option.isSome_iff_exists.1 h1
     rw [one h2]
     simp only [List.map_cons, List.map_nil, abi, hq, alen, svals, sval]
     exact ⟨.int .i64 0, fun w => by simp [builtin, Builtin.len_, hty, run_underlying (und_of_slice he), goInt], hK⟩
   · exact q.elim
 · split at q
   · rename_i x y hxy
     obtain ⟨a, ha, q⟩ := onO_iff q
     obtain ⟨b, hb, q⟩ := onO_iff q
     obtain ⟨k, hk, hK⟩ := onO_iff q
     obtain ⟨k1, h1⟩ := aint_eq ha
     obtain ⟨k2, h2⟩ := aint_eq hb
     rw [h1] at hk
     simp only [xbi.akind, Option.some.injEq] at hk
     subst hk
     rw [hxy]
     simp only [List.map_cons, List.map_nil, abi, h1, h2, svals, sval]
     exact ⟨.int k1 (if b < a then b else a), fun w => by simp [builtin, Builtin.min_, Builtin.min2], hK⟩
   · exact q.elim
 · split at q
   · rename_i x y hxy
     obtain ⟨a, ha, q⟩ := onO_iff q
     obtain ⟨b, hb, q⟩ := onO_iff q
     obtain ⟨k, hk, hK⟩ := onO_iff q
     obtain ⟨k1, h1⟩ := aint_eq ha
     obtain ⟨k2, h2⟩ := aint_eq hb
     rw [h1] at hk
     simp only [xbi.akind, Option.some.injEq] at hk
     subst hk
     rw [hxy]
     simp only [List.map_cons, List.map_nil, abi, h1, h2, svals, sval]
     exact ⟨.int k1 (if b > a then b else a), fun w => by simp [builtin, Builtin.max_, Builtin.max2], hK⟩
   · exact q.elim
 · exact q.elim
end
end Go.R
namespace Go.R
open Go.RowKit
section
variable {P : Program} {C : Tb} {c c0 c' : Cx} {s s1 s2 : St} {a : Act} {w w0 w' : World} {h h0 h' : AH} {n n' : Nat} {T : List Nat} {Q Q' : Exit → St → Prop}
theorem xbuild_abuild {place : Nat → Option (Nat × Nat)} : ∀ (parts : List (Nat × AV)) (cs : List AV) (K : AV → Prop), xbuild place parts cs K → abuild place parts cs K
 | [], cs, K, q => q
 | (i, x) :: r, cs, K, q => by
   obtain ⟨p, hp, q⟩ := onO_iff q
   obtain ⟨ncs, hn, h1, h2, q⟩ := onO_iff q
   simp only [abuild, hp, hn]
   exact ⟨h1, h2, xbuild_abuild r _ K q⟩
theorem xapp_aapp {t e : TypeId} {k z : Nat} {xs : List (List DV)} {x : AV} {T : Nat → Prop} {K : AV → AH → Nat → Prop} (q : xapp P e k z xs x h n T K) : aapp P t e k z xs x h n T K := by
 obtain ⟨ys, hy, ⟨h1, h2⟩, h3, hK⟩ := onO_iff q
 simp only [aapp, hy]
 exact ⟨h1, h2, h3, hK⟩
theorem xappend_aappend {t : TypeId} {s x : AV} {T : Nat → Prop} {K : AV → AH → Nat → Prop} (q : xappend P t s x h n T K) : aappend P t s x h n T K := by
 obtain ⟨e, he, h1, h2, hz, q⟩ := onO_iff q
 obtain ⟨zs, hzs, hzl⟩ := onO_iff hz
 simp only [aappend, he, hzs]
 refine ⟨h1, h2, hzl, ?_⟩
 split at q
 · obtain ⟨g1, g2, q⟩ := q
   refine ⟨g1, ?_, xapp_aapp q⟩
   unfold tokIs at g2
   split at g2
   · rename_i hh; rw [hh, g2.1, g2.2]
   · exact g2.elim
 · exact xapp_aapp q
 · exact q.elim
theorem xun_run {op : UnOp} {u : Value} {K : Value → Prop} (q : xun op u K) : ∃ r, (∀ w, (Op.unary op u).run P w = .ok r w) ∧ K r := by
 unfold xun at q
 split at q
 · obtain ⟨rfl, q⟩ := q
   exact ⟨_, fun w => by simp [Op.unary], q⟩
 · obtain ⟨rfl, q⟩ := q
   exact ⟨_, fun w => by simp [Op.unary, Op.intArith], xwrap_run q⟩
 · exact q.elim
theorem xop_aop {o : Oper} {t : List AV} {T : Nat → Prop} {K : AV → AH → Nat → Prop} (q : xop P C o.op o.type t h n T K) : aop P C o t h n T K := by
 unfold aop
 cases hop : o.op with
 | move x => simp only [hop, xop] at q ⊢; simp only [ard, hop]; exact q
 | assign x => simp only [hop, xop] at q ⊢; simp only [ard, hop]; exact q
 | pick p x y =>
   simp only [hop, xop] at q ⊢
   obtain ⟨b, hb, q⟩ := onB_iff q
   simp only [ard, hop, hb]
   exact q
 | load ty x => simp only [hop, xop] at q ⊢; simp only [ard, hop]; exact ⟨q.1, xload_aload q.2⟩
 | nilCheck x =>
   simp only [hop, xop] at q ⊢
   simp only [ard, hop]
   unfold xptr at q
   split at q
   · rename_i hx; simp only [hx]; exact q
   · rename_i hx; simp only [hx]; exact q
   · rename_i hx; obtain ⟨⟨g, rfl⟩, q⟩ := q; simp only [hx]; exact q
   · exact q.elim
 | fieldAddr ty x f =>
   simp only [hop, xop] at q ⊢
   obtain ⟨⟨off, ft⟩, hf, h1, h2, q⟩ := onO_iff q
   simp only [ard, hop, afield, hf]
   refine ⟨h1, h2, ?_⟩
   unfold xfield at q
   split at q
   · rename_i hx; simp only [hx]; exact q
   · rename_i hx; simp only [hx]; exact q
   · exact q.elim
 | indexAddr ty x i => simp only [hop, xop] at q ⊢; simp only [ard, hop]; exact xidx_aidx q
 | extract x i =>
   simp only [hop, xop] at q ⊢
   obtain ⟨vs, hv, q⟩ := onTup_iff q
   obtain ⟨y, hy, q⟩ := onO_iff q
   simp only [ard, hop, hv, hy]
   exact q
 | makeFunc f x y => simp only [hop, xop] at q ⊢; simp only [ard, hop]; exact q
 | binOp op ty x y ty' =>
   simp only [hop, xop] at q ⊢
   rcases q with q | ⟨hn, q⟩
   · obtain ⟨u, hu, q⟩ := onO_iff q
     obtain ⟨v, hv, q⟩ := onO_iff q
     simp only [ard, hop, hu, hv]
     obtain ⟨r, hr, q⟩ := xbin_run q
     exact ⟨r, hr, q⟩
   · simp only [ard, hop, hn]
     exact q
 | lookup ty x i ok => simp only [hop, xop] at q ⊢; simp only [ard, hop]; exact q
 | unOp op ty x =>
   simp only [hop, xop] at q ⊢
   obtain ⟨u, hu, q⟩ := onO_iff q
   simp only [ard, hop, hu]
   obtain ⟨r, hr, q⟩ := xun_run (P := P) q
   exact ⟨r, hr, q⟩
 | convert src dst x =>
   simp only [hop, xop] at q ⊢
   cases hu : sval (ev t x) with
   | some u =>
     simp only [hu] at q
     simp only [ard, hop, hu]
     exact q
   | none =>
     simp only [hu] at q
     obtain ⟨rows, h1, q⟩ := onO_iff q
     obtain ⟨ns, h2, q⟩ := onO_iff q
     simp only [ard, hop, hu, h1, h2]
     exact q
 | makeInterface ty x =>
   simp only [hop, xop] at q ⊢
   obtain ⟨u, hu, q⟩ := onO_iff q
   simp only [ard, hop, hu]
   exact q
 | index ty x i =>
   simp only [hop, xop] at q ⊢
   obtain ⟨hs, q⟩ := q
   obtain ⟨u, hu, q⟩ := onO_iff q
   obtain ⟨i, hi, q⟩ := onO_iff q
   obtain ⟨k, hk⟩ := aint_eq hi
   have hstr : P.underlying ty = some .string := by
    unfold strP at hs
    split at hs
    · assumption
    · cases hs
   have hk' := congrArg sval hk
   simp only [ard, hop, hu]
   rw [show sval (AV.d (DV.v (Value.int k i))) = some (.int k i) from rfl] at hk'
   simp only [hk']
   cases u with
   | string b =>
     obtain ⟨⟨h1, h2⟩, q⟩ := q
     have hlt : i.toNat < b.size := by omega
     refine ⟨.int .u8 (byteAt b i), fun w => ?_, q⟩
     have hb : b[i.toNat]? = some b[i.toNat] := getElem?_pos b i.toNat hlt
     simp [Instr.index, asIntOf, run_underlying hstr, h1, hb, byteAt]
   | _ => exact q.elim
 | field ty x f =>
   simp only [hop, xop] at q ⊢
   obtain ⟨⟨off, ft⟩, hf, h1, q⟩ := onO_iff q
   simp only [ard, hop, hf]
   refine ⟨h1, ?_⟩
   split at q
   · rename_i hx
     simp only [hx]
     exact ⟨q.1.1, q.1.2, xpack_pack q.2⟩
   · exact q.elim
 | slice ty x lo hi mx =>
   cases mx with
   | some m => simp only [hop, xop] at q
   | none => simp only [hop, xop] at q ⊢; exact xsl_ard hop q
 | alloc ty =>
   simp only [hop, xop] at q ⊢
   obtain ⟨cs, hc, q⟩ := onO_iff q
   simp only [aeff, hop, hc]
   exact q
 | box ty x =>
   simp only [hop, xop] at q ⊢
   obtain ⟨cs, hc, q⟩ := onO_iff q
   simp only [aeff, hop, hc]
   exact q
 | store ty x y =>
   simp only [hop, xop] at q ⊢
   obtain ⟨h1, q⟩ := q
   simp only [aeff, hop]
   refine ⟨h1, ?_⟩
   split at q
   · rename_i i off hx
     obtain ⟨old, hb, q⟩ := onBox_iff q
     obtain ⟨cs, hc, q⟩ := onO_iff q
     simp only [hx, hb, hc]
     exact q
   · exact q.elim
 | build ty parts =>
   simp only [hop, xop] at q ⊢
   obtain ⟨h1, q⟩ := q
   obtain ⟨cs, hc, q⟩ := onO_iff q
   simp only [aeff, hop, hc]
   exact ⟨h1, xbuild_abuild _ _ _ q⟩
 | buildSlice ty len parts =>
   simp only [hop, xop] at q ⊢
   obtain ⟨e, he, h1, h2, h3, h4, q⟩ := onO_iff q
   obtain ⟨rows, hr, q⟩ := onO_iff q
   simp only [aeff, hop, he, hr]
   exact ⟨h1, h2, h3, h4, q⟩
 | call cl =>
   simp only [hop, xop] at q ⊢
   cases hc : cl.callee with
   | builtin b =>
     simp only [hc] at q ⊢
     cases b with
     | append =>
       simp only [isApp, if_true] at q ⊢
       simp only [aeff, hop, hc]
       split at q
       · rename_i s x hargs
         split at q
         · rename_i t1 t2 hts
           simp only [hargs, hts]
           exact ⟨q.1, xappend_aappend q.2⟩
         · exact q.elim
       · exact q.elim
     | _ => simp only [isApp] at q ⊢; exact xbi_ard hop hc q
   | value f =>
     simp only [hc] at q ⊢
     simp only [acall, hc]
     unfold xcall at q
     split at q
     · rename_i hf; first | exact q | (simp only [hf]; exact q)
     · exact q.elim
   | invoke r m => simp only [hc] at q
 | _ => simp only [hop, xop] at q
theorem undef_rep {h : AH} : ARep c h w undef (.tup []) := .tup [] [] rfl (by simp)
theorem onG_iff {x : AV} {f : Bool → Prop} {g : Prop} (q : onG x f g) : (∃ b, x = .d (.v (.bool b)) ∧ f b) ∨ (x = .tup [] ∧ g) := by
 unfold onG at q
 split at q
 · exact .inl ⟨_, rfl, q⟩
 · exact .inr ⟨rfl, q⟩
 · exact q.elim
theorem xops_wp (hC : TbOk P C) {ops : Array Oper} {Q : Exit → Act → World → Prop} {K : St → Prop} {b0 l0 : Nat} : ∀ (l : List Oper) (k : Nat) (c : Cx) (s : St) (a : Act) (w : World), (∀ j, l[j]? = ops[k + j]?) → SI T c0 h0 w0 c s a w → s.b = b0 → s.t.length = l0 →
 xops P C T ops l s K → (∀ c' s' a' w', SI T c0 h0 w0 c' s' a' w' → s'.b = b0 → s'.t.length = l0 → K s' → Q .normal a' w') → wpOps P ops Q (List.range' k l.length) a w
 | [], _, c, s, a, w, _, I, hb, hl, hK, hQ => hQ c s a w I hb hl hK
 | o :: l, k, c, s, a, w, hops, I, hb, hl, hK, hQ => by
   have ho : ops[k]? = some o := by simpa using (hops 0).symm
   have hops' : ∀ j, l[j]? = ops[k + 1 + j]? := fun j => by have := hops (j + 1); simpa [Nat.add_assoc, Nat.add_comm 1 j] using this
   simp only [List.length_cons, List.range', wpOps, ho]
   simp only [xops] at hK
   cases hg : o.guard with
   | none =>
     simp only [hg] at hK
     have hw : Region.wanted o (yielded ops a.tmps) = true := by simp [Region.wanted, hg]
     rw [if_pos hw]
     exact .inl (aop_wp hC I (xop_aop hK) fun c' v r h' n' w' hr I' => xops_wp hC l (k + 1) _ _ _ _ hops' I' hb (by rw [putT_length]; exact hl) hr hQ)
   | some jw =>
     obtain ⟨j, want⟩ := jw
     simp only [hg] at hK
     obtain ⟨d, hd, hK⟩ := onO_iff hK
     rcases onG_iff hK with ⟨q, hq, hK⟩ | ⟨hq, hK⟩
     case inr =>
      have hv := I.undef hq
      have hy : Region.wanted o (yielded ops a.tmps) = false := by
       simp only [Region.wanted, hg, yielded, hd, Option.bind_some, hv]
       rfl
      have I2 := I.next (d := o.dst) (v := undef) (r := .tup []) I.srep.wd (Ext.refl _ _ _) (Fr.refl _ _ _ _) undef_rep (Nat.le_refl _)
      rw [if_neg (by rw [hy]; simp)]
      exact xops_wp hC l (k + 1) _ _ _ _ hops' I2 hb (by rw [putT_length]; exact hl) hK hQ
     have hv := I.bool hq
     have hy : Region.wanted o (yielded ops a.tmps) = (q == want) := by
      simp only [Region.wanted, hg, yielded, hd, Option.bind_some, hv]
      cases q <;> cases want <;> rfl
     have I1 : SI T c0 h0 w0 c { s with t := s.t.set d (.d (.v (.bool q))) } a w := I.setT fun v hv' => by rw [hv] at hv'; cases hv'; exact .d _ _ (.v _ rfl)
     cases want <;> cases q
     · rw [if_pos (by rw [hy]; rfl)]
       exact .inl (aop_wp hC I1 (xop_aop (hK.2 rfl)) fun c' v r h' n' w' hr I' => xops_wp hC l (k + 1) _ _ _ _ hops' I' hb (by rw [putT_length]; simpa using hl) hr hQ)
     · rw [if_neg (by rw [hy]; simp)]
       exact xops_wp hC l (k + 1) _ _ _ _ hops' (I1.next (d := o.dst) (v := undef) (r := .tup []) I1.srep.wd (Ext.refl _ _ _) (Fr.refl _ _ _ _) undef_rep (Nat.le_refl _)) hb (by rw [putT_length]; simpa using hl) (hK.1 rfl) hQ
     · rw [if_neg (by rw [hy]; simp)]
       exact xops_wp hC l (k + 1) _ _ _ _ hops' (I1.next (d := o.dst) (v := undef) (r := .tup []) I1.srep.wd (Ext.refl _ _ _) (Fr.refl _ _ _ _) undef_rep (Nat.le_refl _)) hb (by rw [putT_length]; simpa using hl) (hK.2 rfl) hQ
     · rw [if_pos (by rw [hy]; rfl)]
       exact .inl (aop_wp hC I1 (xop_aop (hK.1 rfl)) fun c' v r h' n' w' hr I' => xops_wp hC l (k + 1) _ _ _ _ hops' I' hb (by rw [putT_length]; simpa using hl) hr hQ)
theorem xopQ_aopQ {o : Oper} {t : List AV} {K : AV → Prop} (q : xopQ P C o.op o.type t h n K) : aopQ P C o t h n K := by
 unfold aopQ
 have rd : (∀ cl, o.op ≠ .call cl) → quietOp o.op = true → xop P C o.op o.type t h n (fun _ => False) (fun r _ _ => K r) → ard P o t h K := by
  intro hnc hq hx
  have := xop_aop (P := P) (C := C) (o := o) hx
  unfold aop at this
  cases hop : o.op <;> simp only [hop, quietOp] at this hq <;> first | exact absurd hop (hnc _) | exact this | cases hq
 cases hop : o.op with
 | call cl =>
   simp only [hop, xopQ] at q ⊢
   cases hc : cl.callee with
   | builtin b =>
     simp only [hc] at q ⊢
     cases b with
     | append => exact q.elim
     | _ => exact xbi_ard hop hc q
   | value f =>
     simp only [hc] at q ⊢
     simp only [acallQ, hc]
     unfold xcallQ at q
     split at q
     · rename_i hf; first | exact q | (simp only [hf]; exact q)
     · exact q.elim
   | invoke r m => simp only [hc] at q
 | _ =>
   simp only [hop, xopQ] at q ⊢
   exact rd (fun cl e => by rw [hop] at e; cases e) (by rw [hop]; exact q.1) (by rw [hop]; exact q.2)
theorem xopsQ_quiet (hC : TbOk P C) {ops : Array Oper} {Q : Act → Prop} {K : St → Prop} : ∀ (l : List Oper) (s : St) (a : Act), SI T c0 h0 w0 c s a w → xopsQ P C ops l s K →
 (∀ s' a', SI T c0 h0 w0 c s' a' w → s'.b = s.b → s'.t.length = s.t.length → K s' → Q a') → wpQuiet P ops (fun w' => Below w.heap.size w w') Q l a
 | [], s, a, I, hK, hQ => hQ s a I rfl rfl hK
 | o :: l, s, a, I, hK, hQ => by
   simp only [wpQuiet]
   simp only [xopsQ] at hK
   cases hg : o.guard with
   | none =>
     simp only [hg] at hK
     have hw : Region.wanted o (yielded ops a.tmps) = true := by simp [Region.wanted, hg]
     rw [if_pos hw]
     exact aopQ_quiet hC I (xopQ_aopQ hK) fun v r hr I' => xopsQ_quiet hC l _ _ I' hr fun s' a' I2 hb hl => hQ s' a' I2 hb (by rw [hl]; exact putT_length _ _ _)
   | some jw =>
     obtain ⟨j, want⟩ := jw
     simp only [hg] at hK
     obtain ⟨d, hd, hK⟩ := onO_iff hK
     rcases onG_iff hK with ⟨q, hq, hK⟩ | ⟨hq, hK⟩
     case inr =>
      have hv := I.undef hq
      have hy : Region.wanted o (yielded ops a.tmps) = false := by
       simp only [Region.wanted, hg, yielded, hd, Option.bind_some, hv]
       rfl
      have I2 := I.next (d := o.dst) (v := undef) (r := .tup []) I.srep.wd (Ext.refl _ _ _) (Fr.refl _ _ _ _) undef_rep (Nat.le_refl _)
      rw [if_neg (by rw [hy]; simp)]
      exact xopsQ_quiet hC l _ _ I2 hK fun s' a' I3 hb hl => hQ s' a' I3 hb (by rw [hl]; simp [putT_length])
     have hv := I.bool hq
     have hy : Region.wanted o (yielded ops a.tmps) = (q == want) := by
      simp only [Region.wanted, hg, yielded, hd, Option.bind_some, hv]
      cases q <;> cases want <;> rfl
     have I1 : SI T c0 h0 w0 c { s with t := s.t.set d (.d (.v (.bool q))) } a w := I.setT fun v hv' => by rw [hv] at hv'; cases hv'; exact .d _ _ (.v _ rfl)
     cases want <;> cases q
     · rw [if_pos (by rw [hy]; rfl)]
       exact aopQ_quiet hC I1 (xopQ_aopQ (hK.2 rfl)) fun v r hr I' => xopsQ_quiet hC l _ _ I' hr fun s' a' I2 hb hl => hQ s' a' I2 hb (by rw [hl]; simp [putT_length])
     · rw [if_neg (by rw [hy]; simp)]
       exact xopsQ_quiet hC l _ _ (I1.next (d := o.dst) (v := undef) (r := .tup []) I1.srep.wd (Ext.refl _ _ _) (Fr.refl _ _ _ _) undef_rep (Nat.le_refl _)) (hK.1 rfl) fun s' a' I3 hb hl => hQ s' a' I3 hb (by rw [hl]; simp [putT_length])
     · rw [if_neg (by rw [hy]; simp)]
       exact xopsQ_quiet hC l _ _ (I1.next (d := o.dst) (v := undef) (r := .tup []) I1.srep.wd (Ext.refl _ _ _) (Fr.refl _ _ _ _) undef_rep (Nat.le_refl _)) (hK.2 rfl) fun s' a' I3 hb hl => hQ s' a' I3 hb (by rw [hl]; simp [putT_length])
     · rw [if_pos (by rw [hy]; rfl)]
       exact aopQ_quiet hC I1 (xopQ_aopQ (hK.1 rfl)) fun v r hr I' => xopsQ_quiet hC l _ _ I' hr fun s' a' I2 hb hl => hQ s' a' I2 hb (by rw [hl]; simp [putT_length])
theorem AW.xregion {id : Nat} {ops : Array Oper} (h : xops P C T ops ops.toList s (Q .normal)) : AW P C T (.region id ops false) Q s := by
 intro c0 h0 w0 c a w hC I
 refine wp_region ?_
 have := xops_wp hC (ops := ops) (Q := fun e a' w' => ∃ c' s', SI T c0 h0 w0 c' s' a' w' ∧ s'.b = s.b ∧ s'.t.length = s.t.length ∧ Q e s') ops.toList 0 c s a w (by simp) I rfl rfl h (fun c' s' a' w' I' hb hl hK => ⟨c', s', I', hb, hl, hK⟩)
 rw [List.range_eq_range']
 simpa using this
theorem AW.xregionQ {id : Nat} {ops : Array Oper} (hm : P.follows .mixedOrders = true) (hB : Region.lexB .any ops = true) (h : xopsQ P C ops ops.toList s (Q .normal)) : AW P C T (.region id ops true) Q s := by
 intro c0 h0 w0 c a w hC I
 have I1 := I.drew
 refine wp_region_quiet (C := fun w' => Below ({ w with drawn := w.drawn + 1 } : World).heap.size { w with drawn := w.drawn + 1 } w') hm hB (Below.refl _ _) ?_
 exact xopsQ_quiet hC ops.toList s a I1 h fun s' a' I' hb hl hK w' hw' => ⟨c, s', I'.same hw', hb, hl, hK⟩
end
end Go.R
namespace Go.R
open Go.RowKit
inductive Rs where
 | ok (r : AV) (h : AH) (n : Nat)
 | bad
 | need (p : Prop) (r : Rs)
 | two (q : Bool) (a b : Rs)
def Rs.den (K : AV → AH → Nat → Prop) : Rs → Prop
 | .ok r h n => K r h n
 | .bad => False
 | .need p r => p ∧ r.den K
 | .two q a b => (q = true → a.den K) ∧ (q = false → b.den K)
def oR {α : Type} (x : Option α) (f : α → Rs) : Rs := match x with
 | some a => f a
 | none => .bad
def rdR (h : AH) (n : Nat) (x : Option AV) : Rs := match x with
 | some r => .ok r h n
 | none => .bad
def packO (P : Program) (t : TypeId) (cs : List AV) : Option AV := if aggP P t then some (.agg (cs.take (sizeP P t))) else cs.head?
def packN (P : Program) (t : TypeId) (cs : List AV) : Prop := if aggP P t then sizeP P t ≤ cs.length else True
def cellsOfO (h : AH) : AV → Option (List AV)
 | .p i off => match h i with
   | .box cs => some (cs.drop off)
   | _ => none
 | .e cs => some (cs.map .d)
 | _ => none
def loadR (P : Program) (ty : TypeId) (t : List AV) (x : Operand) (h : AH) (n : Nat) : Rs := oR (cellsOfO h (ev t x)) fun cs => .need (infoP P ty = true ∧ packN P ty cs) (rdR h n (packO P ty cs))
def fieldO (off : Nat) : AV → Option AV
 | .p j o => some (.p j (o + off))
 | .e cs => some (.e (cs.drop off))
 | _ => none
def rowAt (xs : List (List DV)) (i : Nat) : List DV := xs.getD i []
theorem rowAt_map {α : Type} (f : α → List DV) (l : List α) (i : Nat) : rowAt (l.map f) i = match l[i]? with
 | some x => f x
 | none => [] := by
 unfold rowAt
 rw [List.getD_eq_getElem?_getD, List.getElem?_map]
 cases l[i]? <;> rfl
def idxR (P : Program) (ty : TypeId) (x : AV) (i : Int) (h : AH) (n : Nat) : Rs := match sliceP P ty with
 | some e => oR (rowsOf (sizeP P e) x) fun xs => .need (infoP P e = true) (.need (0 ≤ i ∧ i < xs.length) (.ok (.e (rowAt xs i.toNat)) h n))
 | none => oR (arrayP P ty) fun q => match x with
   | .p j off => .need (infoP P q.2 = true) (.need (0 ≤ i ∧ i < q.1) (.ok (.p j (off + i.toNat * sizeP P q.2)) h n))
   | _ => .bad
def ptrO : AV → Option AV
 | .p i off => some (.p i off)
 | .e cs => some (.e cs)
 | .fn (.func g) a b => some (.fn (.func g) a b)
 | _ => none
def tupO (i : Nat) : AV → Option AV
 | .tup vs => vs[i]?
 | _ => none
def wrapR (k : IntKind) (m : Int) (h : AH) (n : Nat) : Rs := match k with
 | .i64 => .need (-9223372036854775808 ≤ m ∧ m ≤ 9223372036854775807) (.ok (.d (.v (.int .i64 m))) h n)
 | k => .ok (.d (.v (.int k (k.wrap m)))) h n
def okV (v : Value) (h : AH) (n : Nat) : Rs := .ok (.d (.v v)) h n
def intR (op : BinOp) (k : IntKind) (a b : Int) (h : AH) (n : Nat) : Rs := match op with
 | .add => wrapR k (a + b) h n
 | .sub => wrapR k (a - b) h n
 | .mul => wrapR k (a * b) h n
 | .quo => .need (b ≠ 0) (okV (.int k (k.wrap (a.tdiv b))) h n)
 | .rem => .need (b ≠ 0) (okV (.int k (a.tmod b)) h n)
 | .eql => okV (.bool (a == b)) h n
 | .neq => okV (.bool (a != b)) h n
 | .lss => okV (.bool (decide (a < b))) h n
 | .leq => okV (.bool (decide (a ≤ b))) h n
 | .gtr => okV (.bool (decide (b < a))) h n
 | .geq => okV (.bool (decide (b ≤ a))) h n
 | .and => okV (.int k (k.wrap (BitVec.ofInt k.bits a &&& BitVec.ofInt k.bits b).toNat)) h n
 | .or => okV (.int k (k.wrap (BitVec.ofInt k.bits a ||| BitVec.ofInt k.bits b).toNat)) h n
 | .xor => okV (.int k (k.wrap (BitVec.ofInt k.bits a ^^^ BitVec.ofInt k.bits b).toNat)) h n
 | .andNot => okV (.int k (k.wrap (BitVec.ofInt k.bits a &&& ~~~(BitVec.ofInt k.bits b)).toNat)) h n
 | .shl => .need (0 ≤ b) (okV (.int k (k.wrap (a * 2 ^ min b.toNat k.bits))) h n)
 | .shr => .need (0 ≤ b) (okV (.int k (a.fdiv (2 ^ min b.toNat k.bits))) h n)
def strR (op : BinOp) (a b : ByteArray) (h : AH) (n : Nat) : Rs := match op with
 | .add => .need (((a.size + b.size : Nat) : Int) ≤ 9223372036854775807) (okV (.string (a ++ b)) h n)
 | .eql => okV (.bool (a.toList == b.toList)) h n
 | .neq => okV (.bool (!(a.toList == b.toList))) h n
 | .lss => okV (.bool (Op.bytesLess a.toList b.toList)) h n
 | .leq => okV (.bool (Op.bytesLess a.toList b.toList || a.toList == b.toList)) h n
 | .gtr => okV (.bool (!(Op.bytesLess a.toList b.toList || a.toList == b.toList))) h n
 | .geq => okV (.bool (!Op.bytesLess a.toList b.toList)) h n
 | _ => .bad
structure EqT (P : Program) where
 eq : TypeId → List Value → List Value → Option Bool
 ok : ∀ t us vs b, eq t us vs = some b → ∀ (op : BinOp) (x y : Operand) w, (op = .eql → (do eqGuard op t x y (.agg us.toArray) (.agg vs.toArray); binOp op t (.agg us.toArray) (.agg vs.toArray)).run P w = .ok (.bool b) w) ∧
  (op = .neq → (do eqGuard op t x y (.agg us.toArray) (.agg vs.toArray); binOp op t (.agg us.toArray) (.agg vs.toArray)).run P w = .ok (.bool (!b)) w)
def EqT.no (P : Program) : EqT P := ⟨fun _ _ _ => none, fun _ _ _ _ h => by cases h⟩
def binR {P : Program} (E : EqT P) (op : BinOp) (ty : TypeId) (x y : AV) (h : AH) (n : Nat) : Rs := match x with
 | .d (.v (.int k a)) => match y with
   | .d (.v (.int k' b)) => if isShift op then intR op k a b h n else .need (k = k') (intR op k a b h n)
   | _ => .bad
 | .d (.v (.string a)) => match y with
   | .d (.v (.string b)) => strR op a b h n
   | _ => .bad
 | .d (.v (.bool a)) => match y with
   | .d (.v (.bool b)) => match op with
     | .eql => .need (P.underlying ty = some .bool) (okV (.bool (a == b)) h n)
     | .neq => .need (P.underlying ty = some .bool) (okV (.bool (!(a == b))) h n)
     | _ => .bad
   | _ => .bad
 | .agg us => match y with
   | .agg vs => oR (cvals us) fun us => oR (cvals vs) fun vs => oR (E.eq ty us vs) fun b => match op with
     | .eql => okV (.bool b) h n
     | .neq => okV (.bool (!b)) h n
     | _ => .bad
   | _ => .bad
 | .fn (.func _) _ _ => match y with
   | .d (.v .nilFunc) => match op with
     | .eql => .need (funcP P ty = true) (okV (.bool false) h n)
     | .neq => .need (funcP P ty = true) (okV (.bool true) h n)
     | _ => .bad
   | _ => .bad
 | .d (.v .nilFunc) => match y with
   | .d (.v .nilFunc) => match op with
     | .eql => .need (funcP P ty = true) (okV (.bool true) h n)
     | .neq => .need (funcP P ty = true) (okV (.bool false) h n)
     | _ => .bad
   | _ => .bad
 | _ => .bad
def unR (op : UnOp) (x : AV) (h : AH) (n : Nat) : Rs := match x with
 | .d (.v (.bool b)) => .need (op = .not) (okV (.bool (!b)) h n)
 | .d (.v (.int k m)) => .need (op = .neg) (wrapR k (0 - m) h n)
 | _ => .bad
def optI (t : List AV) : Option Operand → Option (Option Int)
 | none => some none
 | some q => match aint (ev t q) with
   | some i => some (some i)
   | none => none
def cutN (n : Nat) : Option Int → Option Int → Prop
 | none, none => True
 | none, some b => 0 ≤ b ∧ b ≤ n
 | some l, none => 0 ≤ l ∧ l ≤ n
 | some l, some b => 0 ≤ l ∧ l ≤ b ∧ b ≤ n
def cutL : Option Int → Nat
 | none => 0
 | some l => l.toNat
def cutM (n : Nat) : Option Int → Nat
 | none => n
 | some b => b.toNat
def slR (P : Program) (ty : TypeId) (x : AV) (lo hi : Option Int) (h : AH) (n : Nat) : Rs := match sliceP P ty with
 | some e => oR (rowsOf (sizeP P e) x) fun xs => .need (infoP P e = true) (.need (cutN xs.length lo hi) (.ok (.d (.sl (sizeP P e) ((xs.take (cutM xs.length hi)).drop (cutL lo)))) h n))
 | none => match x with
   | .d (.v (.string s)) => .need (strP P ty = true) (.need (cutN s.size lo hi) (okV (.string (s.extract (cutL lo) (cutM s.size hi))) h n))
   | _ => .bad
def lenR (P : Program) (ty : TypeId) (x : AV) (h : AH) (n : Nat) : Rs := match x with
 | .d (.sl _ xs) => .need ((sliceP P ty).isSome = true) (okV (.int .i64 xs.length) h n)
 | .own _ _ xs => .need ((sliceP P ty).isSome = true) (okV (.int .i64 xs.length) h n)
 | .d (.v (.string s)) => .need (strP P ty = true) (okV (.int .i64 s.size) h n)
 | .d (.v (.slice none 0 0)) => .need ((sliceP P ty).isSome = true) (okV (.int .i64 0) h n)
 | _ => .bad
def minR (x y : AV) (h : AH) (n : Nat) : Rs := match x with
 | .d (.v (.int k a)) => match y with
   | .d (.v (.int k' b)) => okV (.int k (if b < a then b else a)) h n
   | _ => .bad
 | _ => .bad
def maxR (x y : AV) (h : AH) (n : Nat) : Rs := match x with
 | .d (.v (.int k a)) => match y with
   | .d (.v (.int k' b)) => okV (.int k (if b > a then b else a)) h n
   | _ => .bad
 | _ => .bad
def appR (P : Program) (e : TypeId) (k z : Nat) (xs : List (List DV)) (x : AV) (h : AH) (n : Nat) (t : Prop) : Rs := oR (rowsOf z x) fun ys =>
 .need (xs.length + ys.length ≤ maxLen ∧ (xs.length + ys.length) * bytesP P e ≤ 140737488355328) (.need t (.ok (.own k z (xs ++ ys)) (upd h k (.tok (xs.length + ys.length) z)) n))
def appendR (P : Program) (ty : TypeId) (s x : AV) (h : AH) (n : Nat) (T : Nat → Prop) : Rs := oR (sliceP P ty) fun e => oR (zeroA P e) fun zs =>
 .need (infoP P e = true ∧ 0 < sizeP P e ∧ zs.length = sizeP P e) (match s with
  | .own k z xs => .need (z = sizeP P e) (.need (tokIs (h k) xs.length z) (appR P e k z xs x h n (T k)))
  | .d (.v (.slice none 0 0)) => appR P e n (sizeP P e) [] x (upd h n (.tok 0 (sizeP P e))) (n + 1) True
  | _ => .bad)
def buildO (place : Nat → Option (Nat × Nat)) : List (Nat × AV) → List AV → Option (List AV)
 | [], cs => some cs
 | (i, x) :: r, cs => match place i with
   | some q => match cellsA x with
     | some ncs => if ncs.length = q.2 ∧ q.1 + ncs.length ≤ cs.length then buildO place r (splice cs q.1 ncs) else none
     | none => none
   | none => none
structure Fs where
 run : List AV → AH → Nat → Option (AV × AH × Nat)
 pre : List AV → AH → Nat → Prop
 tch : List AV → List Nat
def Fs.sp (S : Fs) : Sp := ⟨fun args h n K => S.pre args h n ∧ onO (S.run args h n) fun q => K q.1 q.2.1 q.2.2, S.tch⟩
abbrev Ft := FuncId → Fs
def Fs.no : Fs := ⟨fun _ _ _ => none, fun _ _ _ => True, fun _ => []⟩
def Ft.tb (F : Ft) : Tb := fun f => (F f).sp
def Ft.no : Ft := fun _ => Fs.no
def Ft.put (F : Ft) (f : FuncId) (S : Fs) : Ft := fun g => if g = f then S else F g
def allT (T : Nat → Prop) : List Nat → Prop
 | [] => True
 | i :: r => T i ∧ allT T r
def resR (q : Option (AV × AH × Nat)) : Rs := match q with
 | some (r, h, n) => .ok r h n
 | none => .bad
def callR (F : Ft) (f : AV) (args : List AV) (h : AH) (n : Nat) (T : Nat → Prop) : Rs := match f with
 | .fn (.func g) [] caps => .need (allT T ((F g).tch (args ++ caps))) (.need ((F g).pre (args ++ caps) h n) (resR ((F g).run (args ++ caps) h n)))
 | _ => .bad
def intKP (P : Program) (t : TypeId) : Option IntKind := match P.underlying t with
 | some (.int k) => some k
 | _ => none
def opR {P : Program} (E : EqT P) (F : Ft) (op : Op) (t : List AV) (h : AH) (n : Nat) (T : Nat → Prop) : Rs := match op with
 | .move x => .ok (ev t x) h n
 | .assign x => .ok (ev t x) h n
 | .pick c a b => match ev t c with
   | .d (.v (.bool q)) => match q with
     | true => .ok (ev t a) h n
     | false => .ok (ev t b) h n
   | _ => .bad
 | .load ty x => loadR P ty t x h n
 | .nilCheck x => rdR h n (ptrO (ev t x))
 | .fieldAddr ty x f => oR (fieldP P ty f) fun q => .need (infoP P q.2 = true ∧ sizeP P q.2 ≠ 0) (rdR h n (fieldO q.1 (ev t x)))
 | .indexAddr ty x i => oR (aint (ev t i)) fun i => idxR P ty (ev t x) i h n
 | .extract x i => rdR h n (tupO i (ev t x))
 | .makeFunc f a b => .ok (.fn f (a.toList.map (ev t)) (b.toList.map (ev t))) h n
 | .binOp op ty x y _ => binR E op ty (ev t x) (ev t y) h n
 | .lookup ty x i ok => match ok with
   | true => .bad
   | false => match ev t x with
     | .mp ks vs => match ev t i with
       | .d (.v (.string s)) => .need (mapFnP P ty = true) (.ok (mpFind s ks vs) h n)
       | _ => .bad
     | _ => .bad
 | .unOp op _ x => unR op (ev t x) h n
 | .convert src dst x => match sval (ev t x) with
   | some (.int k a) => oR (intKP P dst) fun k' => .need ((P.underlying src).isSome = true) (okV (.int k' (k'.wrap a)) h n)
   | some _ => .bad
   | none => oR (rowsOf 1 (ev t x)) fun rows => oR (byteRows rows) fun ns => .need (bsP P src dst = true) (okV (.string (strOf ns)) h n)
 | .index ty x i => match ev t x with
   | .d (.v (.string s)) => oR (aint (ev t i)) fun i => .need (strP P ty = true) (.need (0 ≤ i ∧ i < s.size) (okV (.int .u8 (byteAt s i)) h n))
   | _ => .bad
 | .field ty x f => oR (fieldP P ty f) fun q => match ev t x with
   | .agg cs => .need (infoP P q.2 = true ∧ q.1 + sizeP P q.2 ≤ cs.length ∧ packN P q.2 (cs.drop q.1)) (rdR h n (packO P q.2 (cs.drop q.1)))
   | _ => .bad
 | .slice ty x lo hi none => oR (optI t lo) fun lo => oR (optI t hi) fun hi => slR P ty (ev t x) lo hi h n
 | .alloc ty => oR (zeroA P ty) fun cs => .ok (.p n 0) (upd h n (.box cs)) (n + 1)
 | .box _ x => oR (cellsA (ev t x)) fun cs => .ok (.p n 0) (upd h n (.box cs)) (n + 1)
 | .store ty x y => match ev t x with
   | .p i off => match h i with
     | .box old => oR (cellsA (ev t y)) fun cs => .need (infoP P ty = true ∧ cs.length = sizeP P ty ∧ off + cs.length ≤ old.length ∧ T i) (.ok .any (upd h i (.box (splice old off cs))) n)
     | _ => .bad
   | _ => .bad
 | .build ty parts => oR (zeroA P ty) fun cs => oR (buildO (placeP P ty) (parts.toList.map fun p => (p.1, ev t p.2)) cs) fun cs => .need (fieldsOk P ty = true) (.ok (.agg cs) h n)
 | .buildSlice ty len parts => oR (sliceP P ty) fun e => oR (zeroA P e) fun _ => oR (rowsA (sizeP P e) (parts.toList.map fun p => ev t p.2)) fun rows =>
    .need (infoP P e = true ∧ parts.toList.map (·.1) = List.range len ∧ len * sizeP P e ≤ 16777216) (if len = 0 then .ok (.own n (sizeP P e) []) (upd h n (.tok 0 (sizeP P e))) (n + 1) else .ok (.d (.sl (sizeP P e) rows)) h n)
 | .call c => match c.callee with
   | .builtin .append => match c.args.toList with
     | [s, x] => match c.argTypes.toList with
       | [t1, t2] => .need (t1 = t2) (appendR P t1 (ev t s) (ev t x) h n T)
       | _ => .bad
     | _ => .bad
   | .builtin .len => match c.args.toList with
     | [x] => match c.argTypes.toList with
       | [ty] => lenR P ty (ev t x) h n
       | _ => .bad
     | _ => .bad
   | .builtin .min => match c.args.toList with
     | [x, y] => minR (ev t x) (ev t y) h n
     | _ => .bad
   | .builtin .max => match c.args.toList with
     | [x, y] => maxR (ev t x) (ev t y) h n
     | _ => .bad
   | .value f => callR F (ev t f) (c.args.toList.map (ev t)) h n T
   | _ => .bad
 | _ => .bad
end Go.R
end
