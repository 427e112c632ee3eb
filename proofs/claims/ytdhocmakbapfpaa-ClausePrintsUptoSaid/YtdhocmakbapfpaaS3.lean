import Derived.Test.YtdhocmakbapfpaaS2
import Derived.Shelf.SlicesE.Reverse
import Derived.Test.YtdhocmakbapfpaaProg
import Derived.Shelf.Strings.Builder1
import Derived.Shelf.Strings.Builder2
import Derived.Shelf.Strings.OnBuilder
set_option linter.unusedVariables false
set_option linter.unusedSimpArgs false
section
namespace Go.Proofs.Ytdhocmakbapfpaa.M
open Go.RowKit Go.Proofs.YtdhocmakbapfpaaW.PrintWords Go.Proofs.YtdhocmakbapfpaaW.PrintMore Go.Proofs.YtdhocmakbapfpaaW.PrintLast
attribute [local go_sem] max2_int min2_int max_two min_two
def parseLitP (s : ByteArray) : Except (Int × Int) (Term × (ByteArray × List Term)) := runP s (fun T n => saidP T s n)
def litOf (r : Term × (ByteArray × List Term)) : Lit := ⟨1, r.1, r.2.1, r.2.2⟩
abbrev zeroL : Obj := .cells #[.int .u8 0, .string ⟨#[]⟩, .string ⟨#[]⟩, .int .i64 0, .string ⟨#[]⟩, .slice none 0 0] 28
abbrev oneL : Obj := .cells #[.int .u8 1, .string ⟨#[]⟩, .string ⟨#[]⟩, .int .i64 0, .string ⟨#[]⟩, .slice none 0 0] 28
def ParseLitPost (w : World) (r : Except (Int × Int) (Term × (ByteArray × List Term))) (e : Ending) (w' : World) : Prop := match r with
 | .error (p, x) => e = .returned (.tuple #[litV Lit.z (.slice none 0 0), .int .i64 p, .int .i64 x]) ∧ Below w.heap.size w w'
 | .ok r => (∃ av, e = .returned (.tuple #[litV (litOf r) av, .int .i64 0, .int .i64 0]) ∧ Kd.R kTerm 25 w' w.heap.size (fun q => w.heap.size ≤ q) av r.2.2) ∧ Below w.heap.size w w'
theorem litSet_fr {w w' : World} {S : Nat → Prop} {b : Nat} {l : Lit} {av : Value} (h : Fr S w w') (hx : S b ∨ w.heap.size ≤ b) : Fr S w (litSet w' b l av) :=
 (((((h.set ⟨b, 0, none⟩ hx _).set ⟨b, 1, none⟩ hx _).set ⟨b, 2, none⟩ hx _).set ⟨b, 3, none⟩ hx _).set ⟨b, 4, none⟩ hx _).set ⟨b, 5, none⟩ hx _
set_option maxRecDepth 100000 in
theorem parseLit_end {w5 : World} {R : Ending → World → Prop} {l : Lit} {av : Value} {b : Nat} {p x : Int} {a : Act} (hd : a.defers = []) (h2 : a.tmps.getD 2 undef = .pointer (some ⟨b, 0, none⟩)) (h3 : a.tmps.getD 3 undef = .int .i64 p) (h4 : a.tmps.getD 4 undef = .int .i64 x)
 (hL : w5.heap[b]? = some zeroL) (hR : R (.returned (.tuple #[litV l av, .int .i64 p, .int .i64 x])) (litSet w5 b l av)) :
 bodyPost Try.prog Try.f15 R .ret a (litSet w5 b l av) := by
 refine bodyPost_ret (results_ctt' (fn := Try.f15) (p := 2) (u := 3) (v := 4) rfl _ _ b 28 _ (0, 0) h2 (litSet_blk (k := 0) (who := Term.z) (pred := noStr) (v := .slice none 0 0) hL) (by rfl) (by rfl)) hd ?_
 rw [h3, h4]
 exact hR
set_option maxHeartbeats 4000000 in
set_option maxRecDepth 100000 in
theorem parseLit_calls (s : ByteArray) (w : World) (hs : s.size ≤ maxLen) : Calls Try.prog 15 #[.string s] w (ParseLitPost w (parseLitP s)) := by
 have hmf := @hmf
 have hb : ((w.alloc zeroL).alloc oneL).heap[w.heap.size + 1]? = some oneL := by
  have h := heap_alloc_new (w.alloc zeroL) oneL
  rwa [show (w.alloc zeroL).heap.size = w.heap.size + 1 by simp] at h
 have hE31 := Aside0.mk (fun (args : Array Value) (w : World) => enters_ (f := 45) (P := Try.prog) Try.func45 (by kernel_rfl) rfl args w)
 have hrun := run_calls (w := (w.alloc zeroL).alloc oneL) (b := w.heap.size + 1) (ob := oneL) hs 45 #[.pointer (some ⟨w.heap.size + 1, 0, none⟩)] (fun T n => saidP T s n) (fun w1 r w' => SaidO (w.heap.size + 1) 1 [] 28 w1 r w') hE31.out hb (fun cs h => by simp at h)
  (fun T w0 w1 g hT hg hP hB hf hbb => lit1_calls hT hg hP hB hf hbb)
  (fun w1 r w2 w3 S hI hF hS hq => by obtain ⟨av, h1, h2⟩ := hI; exact ⟨av, hF.blk h1 hS, hF.R h2 hq⟩)
 replace hrun := Aside0.mk hrun
 have hd0 := blk_alloc (heap_alloc_new w zeroL) oneL
 have hF0 : Fr (fun _ => False) w ((w.alloc zeroL).alloc oneL) := ((Fr.refl _ w).alloc _).alloc _
 obtain ⟨r, hr⟩ : ∃ r, r = parseLitP s := ⟨_, rfl⟩
 rw [← hr]
 go_enter Try.func15, Try.ntmps15
 go_wp2_with fail
 refine hrun.out.mono ?_
 intro e w5 hp
 rw [show runP s (fun T n => saidP T s n) = r from hr.symm] at hp
 clear hrun
 cases r with
 | error q =>
   obtain ⟨p, x⟩ := q
   obtain ⟨rfl, hF⟩ := hp
   have hD := hF.blk hd0 (fun q => by have : w.heap.size = w.heap.size + 1 := q; omega)
   have d0 : w5.cell? ⟨w.heap.size, 0, none⟩ = some (.int .u8 0) := (blk_cell hD 0).trans rfl
   have d1 : w5.cell? ⟨w.heap.size, 1, none⟩ = some (.string ⟨#[]⟩) := (blk_cell hD 1).trans rfl
   have d2 : w5.cell? ⟨w.heap.size, 2, none⟩ = some (.string ⟨#[]⟩) := (blk_cell hD 2).trans rfl
   have d3 : w5.cell? ⟨w.heap.size, 3, none⟩ = some (.int .i64 0) := (blk_cell hD 3).trans rfl
   have d4 : w5.cell? ⟨w.heap.size, 4, none⟩ = some (.string ⟨#[]⟩) := (blk_cell hD 4).trans rfl
   have d5 : w5.cell? ⟨w.heap.size, 5, none⟩ = some (.slice none 0 0) := (blk_cell hD 5).trans rfl
   have f0 := blk_frozen hD 0
   have f1 := blk_frozen hD 1
   have f2 := blk_frozen hD 2
   have f3 := blk_frozen hD 3
   have f4 := blk_frozen hD 4
   have f5 := blk_frozen hD 5
   have hx : (x != 0) = true := by simpa using runP_err s _ (fun T n => saidP_err T s n) (p, x) (show runP s (fun T n => saidP T s n) = _ from hr.symm)
   go_wp2
   exact parseLit_end (w5 := w5) (b := w.heap.size) (p := p) (x := x) (l := Lit.z) (av := .slice none 0 0) rfl rfl rfl rfl hD
    ⟨rfl, (litSet_fr (S := fun _ => False) (hF0.step hF (fun q hq => Or.inr (by omega))) (Or.inr (Nat.le_refl _))).below (Nat.le_refl _) (fun _ q => q.elim)⟩
 | ok r =>
   obtain ⟨who, x, ts⟩ := r
   obtain ⟨rfl, ⟨w1, hz1, av, hL, hR1⟩, hF⟩ := hp
   have hD := hF.blk hd0 (fun q => by have : w.heap.size = w.heap.size + 1 := q; omega)
   obtain ⟨A1, c1, rfl⟩ := Kd.R_slice hR1
   have d0 : w5.cell? ⟨w.heap.size, 0, none⟩ = some (.int .u8 0) := (blk_cell hD 0).trans rfl
   have d1 : w5.cell? ⟨w.heap.size, 1, none⟩ = some (.string ⟨#[]⟩) := (blk_cell hD 1).trans rfl
   have d2 : w5.cell? ⟨w.heap.size, 2, none⟩ = some (.string ⟨#[]⟩) := (blk_cell hD 2).trans rfl
   have d3 : w5.cell? ⟨w.heap.size, 3, none⟩ = some (.int .i64 0) := (blk_cell hD 3).trans rfl
   have d4 : w5.cell? ⟨w.heap.size, 4, none⟩ = some (.string ⟨#[]⟩) := (blk_cell hD 4).trans rfl
   have d5 : w5.cell? ⟨w.heap.size, 5, none⟩ = some (.slice none 0 0) := (blk_cell hD 5).trans rfl
   have f0 := blk_frozen hD 0
   have f1 := blk_frozen hD 1
   have f2 := blk_frozen hD 2
   have f3 := blk_frozen hD 3
   have f4 := blk_frozen hD 4
   have f5 := blk_frozen hD 5
   have e0 : w5.cell? ⟨w.heap.size + 1, 0, none⟩ = some (.int .u8 1) := (blk_cell hL 0).trans rfl
   have e1 : w5.cell? ⟨w.heap.size + 1, 1, none⟩ = some (.string who.var) := (blk_cell hL 1).trans rfl
   have e2 : w5.cell? ⟨w.heap.size + 1, 2, none⟩ = some (.string who.val.sym) := (blk_cell hL 2).trans rfl
   have e3 : w5.cell? ⟨w.heap.size + 1, 3, none⟩ = some (.int .i64 who.val.num) := (blk_cell hL 3).trans rfl
   have e4 : w5.cell? ⟨w.heap.size + 1, 4, none⟩ = some (.string x) := (blk_cell hL 4).trans rfl
   have e5 : w5.cell? ⟨w.heap.size + 1, 5, none⟩ = some (.slice A1 ts.length c1) := (blk_cell hL 5).trans rfl
   go_wp2
   have hz : w.heap.size + 2 ≤ w1.heap.size := by simpa using hz1
   have hfar : ∀ q, w1.heap.size ≤ q → ¬ (q = w.heap.size) := fun q hq e => by omega
   exact parseLit_end (w5 := w5) (b := w.heap.size) (p := 0) (x := 0) (l := ⟨1, who, x, ts⟩) (av := .slice A1 ts.length c1) rfl rfl rfl rfl hD
    ⟨⟨_, rfl, Kd.R_mono (Kd.R_lower ((litSet_fr (S := fun q => q = w.heap.size) (Fr.refl _ w5) (Or.inl rfl)).R hR1 hfar) (by omega)) (fun q hq => by omega)⟩,
     (litSet_fr (S := fun _ => False) (hF0.step hF (fun q hq => Or.inr (by omega))) (Or.inr (Nat.le_refl _))).below (Nat.le_refl _) (fun _ q => q.elim)⟩
end Go.Proofs.Ytdhocmakbapfpaa.M
end
section
namespace Go.Proofs
open Go.Shelf
def Try.lrev_ren : Go.Shelf.Ren := ⟨fun | 35 => 111 | n => n, fun | 22 => 113 | 23 => 5 | 3 => 3 | 4 => 4 | 0 => 0 | n => n, fun | n => n⟩
theorem Try.lrev : Go.Proofs.SlLaysE.n35 Try.prog Try.lrev_ren := {
 mixed := by kernel_rfl
 f35 := ⟨Try.f111.name, by decide, Try.func111.trans (congrArg some (by kernel_rfl))⟩
 t0 := Try.underlying0
 a0 := Try.isAgg0
 z0 := Try.sizeOf0
 v0 := Try.zeroValue0
 t3 := Try.underlying3
 a3 := Try.isAgg3
 z3 := Try.sizeOf3
 v3 := Try.zeroValue3
 t4 := Try.underlying4
 a4 := Try.isAgg4
 z4 := Try.sizeOf4
 v4 := Try.zeroValue4
 t22 := Try.underlying113
 a22 := Try.isAgg113
 z22 := Try.sizeOf113
 v22 := Try.zeroValue113
 a23 := Try.isAgg5
 z23 := Try.sizeOf5 }
end Go.Proofs
end
section
namespace Go.Proofs
open Go.Shelf
def Try.lays156_ren : Go.Shelf.Ren := ⟨fun | 156 => 72 | 165 => 89 | 166 => 90 | 169 => 91 | 240 => 106 | 241 => 107 | 276 => 112 | 277 => 113 | n => n, fun | 31 => 56 | 9 => 9 | 3 => 3 | 4 => 4 | 0 => 0 | 20 => 20 | 72 => 123 | 76 => 126 | 70 => 121 | 37 => 113 | 75 => 125 | 127 => 137 | 164 => 139 | 5 => 5 | 80 => 128 | n => n, fun | n => n⟩
theorem Try.lays156 : Go.Proofs.Lays.n156 Try.prog Try.lays156_ren := {
 mixed := by kernel_rfl
 f156 := Try.func72.trans (congrArg some (by kernel_rfl))
 f165 := Try.func89.trans (congrArg some (by kernel_rfl))
 f166 := Try.func90.trans (congrArg some (by kernel_rfl))
 f169 := Try.func91.trans (congrArg some (by kernel_rfl))
 f240 := Try.func106.trans (congrArg some (by kernel_rfl))
 f241 := Try.func107.trans (congrArg some (by kernel_rfl))
 f276 := Try.func112.trans (congrArg some (by kernel_rfl))
 f277 := Try.func113.trans (congrArg some (by kernel_rfl))
 t0 := Try.underlying0
 a0 := Try.isAgg0
 z0 := Try.sizeOf0
 v0 := Try.zeroValue0
 t3 := Try.underlying3
 a3 := Try.isAgg3
 z3 := Try.sizeOf3
 v3 := Try.zeroValue3
 t4 := Try.underlying4
 a4 := Try.isAgg4
 z4 := Try.sizeOf4
 v4 := Try.zeroValue4
 t9 := Try.underlying9
 a9 := Try.isAgg9
 z9 := Try.sizeOf9
 v9 := Try.zeroValue9
 t20 := Try.underlying20
 a20 := Try.isAgg20
 z20 := Try.sizeOf20
 v20 := Try.zeroValue20
 t31 := Try.underlying56
 a31 := Try.isAgg56
 z31 := Try.sizeOf56
 v31 := Try.zeroValue56
 t37 := Try.underlying113
 a37 := Try.isAgg113
 z37 := Try.sizeOf113
 v37 := Try.zeroValue113
 t70 := Try.underlying121
 a70 := Try.isAgg121
 z70 := Try.sizeOf121
 v70 := Try.zeroValue121
 t72 := Try.underlying123
 a72 := Try.isAgg123
 z72 := Try.sizeOf123
 v72 := Try.zeroValue123
 t75 := Try.underlying125
 a75 := Try.isAgg125
 z75 := Try.sizeOf125
 v75 := Try.zeroValue125
 t76 := Try.underlying126
 a76 := Try.isAgg126
 z76 := Try.sizeOf126
 v76 := Try.zeroValue126
 t127 := Try.underlying137
 a127 := Try.isAgg137
 z127 := Try.sizeOf137
 v127 := Try.zeroValue137
 t164 := Try.underlying139
 a164 := Try.isAgg139
 z164 := Try.sizeOf139
 v164 := Try.zeroValue139 }
theorem Try.Builder_Extra_156 : Builder.Extra Try.prog Try.lays156_ren := {
 sizeBuilder := by kernel_rfl
 liesBuilder := by kernel_rfl
 t5 := Try.underlying5
 a5 := Try.isAgg5
 z5 := Try.sizeOf5
 v5 := Try.zeroValue5
 infoByte := by kernel_rfl
 cellsByte := by kernel_rfl
 sizeByte := by kernel_rfl
 neB5 := by decide }
open Go.RowKit in
theorem Try.strings_Join_none (a : Option Addr) (c : Nat) (sep : ByteArray) (w : World) :
 Calls Try.prog 72 #[.slice a 0 c, .string sep] w fun e w' => e = .returned (.string ⟨#[]⟩) ∧ w' = w := Any.strings_Join_none Try.lays156 Try.Builder_Extra_156 a c sep w
open Go.RowKit in
theorem Try.strings_Join (bk o c : Nat) (xs : List ByteArray) (sep : ByteArray) (w : World) (hcells : ∀ (j : Nat) x, xs[j]? = some x → w.cell? ⟨bk, o + j, none⟩ = some (.string x)) (hbk : bk < w.heap.size) (hN : xs.length ≤ 140737488355328) (hcap : xs.length ≤ c) (hlen : (Lib.join (xs.map (·.data.toList)) sep.data.toList).length ≤ 140737488355328) :
 Calls Try.prog 72 #[.slice (some ⟨bk, o, none⟩) xs.length c, .string sep] w fun e w' => e = .returned (.string ⟨(Lib.join (xs.map (·.data.toList)) sep.data.toList).toArray⟩) ∧ Below w.heap.size w w' := Any.strings_Join Try.lays156 Try.Builder_Extra_156 bk o c xs sep w hcells hbk hN hcap hlen
end Go.Proofs
end
section
namespace Go.Proofs.Ytdhocmakbapfpaa.M
section
variable {α : Type} {T : List Tok} {s : ByteArray} {one : Nat → PR α}
theorem tail_small : ∀ (r m : Nat) (xs : List α) (j : Nat), tailP T s one r m = .ok (xs, j) → xs.length ≤ r ∧ ∀ x ∈ xs, ∃ n k, one n = .ok (x, k)
 | 0, m, xs, j, h => by
   unfold tailP at h
   split at h
   · cases h
   · cases h
     exact ⟨Nat.le_refl _, fun x hx => absurd hx List.not_mem_nil⟩
 | r + 1, m, xs, j, h => by
   unfold tailP at h
   split at h
   · cases ho : one (m + 1) with
     | error p => simp [ho] at h
     | ok q =>
       obtain ⟨a, k⟩ := q
       simp only [ho] at h
       cases ht : tailP T s one r k with
       | error p => simp [ht] at h
       | ok q =>
         obtain ⟨ys, i⟩ := q
         simp only [ht] at h
         cases h
         obtain ⟨h1, h2⟩ := tail_small r k ys _ ht
         refine ⟨by simp only [List.length_cons]; omega, fun x hx => ?_⟩
         rcases List.mem_cons.1 hx with rfl | hx
         · exact ⟨_, _, ho⟩
         · exact h2 x hx
   · cases h
     exact ⟨Nat.zero_le _, fun x hx => absurd hx List.not_mem_nil⟩
theorem list_small {most n j : Nat} {xs : List α} (hm : 1 ≤ most) (h : listP T s one most n = .ok (xs, j)) : xs.length ≤ most ∧ ∀ x ∈ xs, ∃ n k, one n = .ok (x, k) := by
 unfold listP at h
 cases ho : one n with
 | error p => simp [ho] at h
 | ok q =>
   obtain ⟨a, m⟩ := q
   simp only [ho] at h
   cases ht : tailP T s one (most - 1) m with
   | error p => simp [ht, addL] at h
   | ok q =>
     obtain ⟨ys, i⟩ := q
     simp only [ht, addL] at h
     cases h
     obtain ⟨h1, h2⟩ := tail_small _ _ _ _ ht
     refine ⟨by simp only [List.length_append, List.length_cons, List.length_nil]; omega, fun x hx => ?_⟩
     rcases List.mem_append.1 hx with hx | hx
     · rw [List.mem_singleton.1 hx]
       exact ⟨_, _, ho⟩
     · exact h2 x hx
end
section
variable {T : List Tok} {s : ByteArray}
theorem atom_small {n i : Nat} {x : ByteArray} {ts : List Term} (h : atomP T s n = .ok ((x, ts), i)) : ts.length ≤ 4 := by
 unfold atomP at h
 cases ht : takeP T s [1] n with
 | error p => simp [ht] at h
 | ok q =>
   obtain ⟨y, m⟩ := q
   simp only [ht] at h
   split at h
   · cases hl : listP T s (termP T s) 4 (m + 1) with
     | error p => simp [hl] at h
     | ok q =>
       obtain ⟨us, j⟩ := q
       simp only [hl] at h
       cases hn : needP T s closes j with
       | error p => simp [hn] at h
       | ok q =>
         simp only [hn] at h
         cases h
         exact (list_small (by decide) hl).1
   · cases h
     exact Nat.zero_le _
theorem said_small {n i : Nat} {r : Term × (ByteArray × List Term)} (h : saidP T s n = .ok (r, i)) : r.2.2.length ≤ 4 := by
 unfold saidP at h
 repeat' split at h
 all_goals first | (cases h; done) | skip
 all_goals (cases h; rename_i ha; first | exact atom_small ha | skip)
theorem literal_small {n i : Nat} {l : Lit} (h : literalP T s n = .ok (l, i)) : l.args.length ≤ 4 := by
 unfold literalP saidL pairP at h
 repeat' split at h
 all_goals first | (cases h; done) | skip
 all_goals (cases h; first | (show _ ≤ _; simp; done) | (rename_i ha; exact said_small ha) | skip)
theorem clause_small {n i : Nat} {c : Clause} (h : clauseP T s n = .ok (c, i)) : c.body.length ≤ 6 ∧ c.head.args.length ≤ 4 ∧ ∀ l ∈ c.body, l.args.length ≤ 4 := by
 unfold clauseP at h
 cases ha : atomP T s n with
 | error p => simp [ha] at h
 | ok q =>
   obtain ⟨⟨x, ts⟩, m⟩ := q
   simp only [ha] at h
   cases hb : bodyP T s m with
   | error p => simp [hb] at h
   | ok q =>
     obtain ⟨ls, j⟩ := q
     simp only [hb] at h
     cases hn : needP T s dot j with
     | error p => simp [hn] at h
     | ok q =>
       simp only [hn] at h
       cases h
       unfold bodyP at hb
       split at hb
       · obtain ⟨h1, h2⟩ := list_small (by decide) hb
         exact ⟨h1, atom_small ha, fun l hl => by obtain ⟨_, _, h3⟩ := h2 l hl; exact literal_small h3⟩
       · cases hb
         exact ⟨Nat.zero_le _, atom_small ha, fun l hl => absurd hl List.not_mem_nil⟩
end
theorem run_ok {α : Type} {s : ByteArray} {one : List Tok → Nat → PR α} {a : α} (h : runP s one = .ok a) : ∃ T n k, one T n = .ok (a, k) := by
 unfold runP at h
 split at h
 · cases h
 · cases ho : one (allT s).1 0 with
   | error p => simp [ho] at h
   | ok q =>
     obtain ⟨b, n⟩ := q
     simp only [ho] at h
     split at h
     · cases h
     · cases h
       exact ⟨_, _, _, ho⟩
theorem parse_small {s : ByteArray} {c : Clause} (h : parseP s = .ok c) : c.body.length ≤ 6 ∧ c.head.args.length ≤ 4 ∧ ∀ l ∈ c.body, l.args.length ≤ 4 := by
 obtain ⟨T, n, k, h⟩ := run_ok h
 exact clause_small h
theorem parseLit_small {s : ByteArray} {r : Term × (ByteArray × List Term)} (h : parseLitP s = .ok r) : r.2.2.length ≤ 4 := by
 obtain ⟨T, n, k, h⟩ := run_ok h
 exact said_small h
end Go.Proofs.Ytdhocmakbapfpaa.M
end
