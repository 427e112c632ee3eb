import Derived.Test.YtfhpecgknmfnnaaDoorC2
import Derived.Shelf.SlicesE.Reverse
import Derived.Test.YtfhpecgknmfnnaaDoorProg
import Derived.Shelf.Strings.Builder1
import Derived.Shelf.Strings.Builder2
import Derived.Shelf.Strings.OnBuilder
import Derived.Shelf.Strconv.Itoa0
import Derived.Shelf.Strconv.Itoa1
import Derived.Shelf.LaysM
import Derived.Shelf.Strconv.Itoa2
import Derived.Shelf.Strconv.Itoa3
set_option linter.unusedVariables false
set_option linter.unusedSimpArgs false
section
namespace Go.Proofs.YtfhpecgknmfnnaaDoor.M
open Go.RowKit Go.Proofs.YtfhpecgknmfnnaaDoorW.PrintWords Go.Proofs.YtfhpecgknmfnnaaDoorW.PrintMore Go.Proofs.YtfhpecgknmfnnaaDoorW.PrintLast
attribute [local go_sem] max2_int min2_int max_two min_two
def parseLitP (s : ByteArray) : Except (Int × Int) (Term × (ByteArray × List Term)) := runP s (fun T n => saidP T s n)
def litOf (r : Term × (ByteArray × List Term)) : Lit := ⟨1, r.1, r.2.1, r.2.2⟩
abbrev zeroL : Obj := .cells #[.int .u8 0, .string ⟨#[]⟩, .string ⟨#[]⟩, .int .i64 0, .string ⟨#[]⟩, .slice none 0 0] 28
abbrev oneL : Obj := .cells #[.int .u8 1, .string ⟨#[]⟩, .string ⟨#[]⟩, .int .i64 0, .string ⟨#[]⟩, .slice none 0 0] 28
def ParseLitPost (w : World) (r : Except (Int × Int) (Term × (ByteArray × List Term))) (e : Ending) (w' : World) : Prop := match r with
 | .error (p, x) => e = .returned (.tuple #[litV Lit.z (.slice none 0 0), .int .i64 p, .int .i64 x]) ∧ Below w.heap.size w w'
 | .ok r => (∃ av, e = .returned (.tuple #[litV (litOf r) av, .int .i64 0, .int .i64 0]) ∧ Kd.R kTerm 25 w' w.heap.size (fun q => w.heap.size ≤ q) av r.2.2) ∧ Below w.heap.size w w'
theorem litSet_fr {w w' : World} {S : Nat → Prop} {b : Nat} {l : Lit} {av : Value} (h : Fr S w w') (hx : S b ∨ w.heap.size ≤ b) : Fr S w (litSet w' b l av) :=
 (((((h.set ⟨b, 0, none⟩ hx _).set ⟨b, 1, none⟩ hx _).set ⟨b, 2, none⟩ hx _).set ⟨b, 3, none⟩ hx _).set ⟨b, 4, none⟩ hx _).set ⟨b, 5, none⟩ hx _
set_option maxRecDepth 100000 in
theorem parseLit_end {w5 : World} {R : Ending → World → Prop} {l : Lit} {av : Value} {b : Nat} {p x : Int} {a : Act} (hd : a.defers = []) (h2 : a.tmps.getD 2 undef = .pointer (some ⟨b, 0, none⟩)) (h3 : a.tmps.getD 3 undef = .int .i64 p) (h4 : a.tmps.getD 4 undef = .int .i64 x)
 (hL : w5.heap[b]? = some zeroL) (hR : R (.returned (.tuple #[litV l av, .int .i64 p, .int .i64 x])) (litSet w5 b l av)) :
 bodyPost Tryd.prog Tryd.f53 R .ret a (litSet w5 b l av) := by
 refine bodyPost_ret (results_ctt' (fn := Tryd.f53) (p := 2) (u := 3) (v := 4) rfl _ _ b 28 _ (0, 0) h2 (litSet_blk (k := 0) (who := Term.z) (pred := noStr) (v := .slice none 0 0) hL) (by rfl) (by rfl)) hd ?_
 rw [h3, h4]
 exact hR
set_option maxHeartbeats 4000000 in
set_option maxRecDepth 100000 in
theorem parseLit_calls (s : ByteArray) (w : World) (hs : s.size ≤ maxLen) : Calls Tryd.prog 53 #[.string s] w (ParseLitPost w (parseLitP s)) := by
 have hmf := @hmf
 have hb : ((w.alloc zeroL).alloc oneL).heap[w.heap.size + 1]? = some oneL := by
  have h := heap_alloc_new (w.alloc zeroL) oneL
  rwa [show (w.alloc zeroL).heap.size = w.heap.size + 1 by simp] at h
 have hE31 := Aside0.mk (fun (args : Array Value) (w : World) => enters_ (f := 76) (P := Tryd.prog) Tryd.func76 (by kernel_rfl) rfl args w)
 have hrun := run_calls (w := (w.alloc zeroL).alloc oneL) (b := w.heap.size + 1) (ob := oneL) hs 76 #[.pointer (some ⟨w.heap.size + 1, 0, none⟩)] (fun T n => saidP T s n) (fun w1 r w' => SaidO (w.heap.size + 1) 1 [] 28 w1 r w') hE31.out hb (fun cs h => by simp at h)
  (fun T w0 w1 g hT hg hP hB hf hbb => lit1_calls hT hg hP hB hf hbb)
  (fun w1 r w2 w3 S hI hF hS hq => by obtain ⟨av, h1, h2⟩ := hI; exact ⟨av, hF.blk h1 hS, hF.R h2 hq⟩)
 replace hrun := Aside0.mk hrun
 have hd0 := blk_alloc (heap_alloc_new w zeroL) oneL
 have hF0 : Fr (fun _ => False) w ((w.alloc zeroL).alloc oneL) := ((Fr.refl _ w).alloc _).alloc _
 obtain ⟨r, hr⟩ : ∃ r, r = parseLitP s := ⟨_, rfl⟩
 rw [← hr]
 go_enter Tryd.func53, Tryd.ntmps53
 go_wp2_with fail
 refine hrun.out.mono ?_
 intro e w5 hp
 rw [show runP s (fun T n => saidP T s n) = r from hr.symm] at hp
 clear hrun
 cases r with
 | error q =>
   obtain ⟨p, x⟩ := q
   obtain ⟨rfl, hF⟩ := hp
   have hD := hF.blk hd0 (fun q => by have : w.heap.size = w.heap.size + 1 := q; omega)
   have d0 : w5.cell? ⟨w.heap.size, 0, none⟩ = some (.int .u8 0) := (blk_cell hD 0).trans rfl
   have d1 : w5.cell? ⟨w.heap.size, 1, none⟩ = some (.string ⟨#[]⟩) := (blk_cell hD 1).trans rfl
   have d2 : w5.cell? ⟨w.heap.size, 2, none⟩ = some (.string ⟨#[]⟩) := (blk_cell hD 2).trans rfl
   have d3 : w5.cell? ⟨w.heap.size, 3, none⟩ = some (.int .i64 0) := (blk_cell hD 3).trans rfl
   have d4 : w5.cell? ⟨w.heap.size, 4, none⟩ = some (.string ⟨#[]⟩) := (blk_cell hD 4).trans rfl
   have d5 : w5.cell? ⟨w.heap.size, 5, none⟩ = some (.slice none 0 0) := (blk_cell hD 5).trans rfl
   have f0 := blk_frozen hD 0
   have f1 := blk_frozen hD 1
   have f2 := blk_frozen hD 2
   have f3 := blk_frozen hD 3
   have f4 := blk_frozen hD 4
   have f5 := blk_frozen hD 5
   have hx : (x != 0) = true := by simpa using runP_err s _ (fun T n => saidP_err T s n) (p, x) (show runP s (fun T n => saidP T s n) = _ from hr.symm)
   go_wp2
   exact parseLit_end (w5 := w5) (b := w.heap.size) (p := p) (x := x) (l := Lit.z) (av := .slice none 0 0) rfl rfl rfl rfl hD
    ⟨rfl, (litSet_fr (S := fun _ => False) (hF0.step hF (fun q hq => Or.inr (by omega))) (Or.inr (Nat.le_refl _))).below (Nat.le_refl _) (fun _ q => q.elim)⟩
 | ok r =>
   obtain ⟨who, x, ts⟩ := r
   obtain ⟨rfl, ⟨w1, hz1, av, hL, hR1⟩, hF⟩ := hp
   have hD := hF.blk hd0 (fun q => by have : w.heap.size = w.heap.size + 1 := q; omega)
   obtain ⟨A1, c1, rfl⟩ := Kd.R_slice hR1
   have d0 : w5.cell? ⟨w.heap.size, 0, none⟩ = some (.int .u8 0) := (blk_cell hD 0).trans rfl
   have d1 : w5.cell? ⟨w.heap.size, 1, none⟩ = some (.string ⟨#[]⟩) := (blk_cell hD 1).trans rfl
   have d2 : w5.cell? ⟨w.heap.size, 2, none⟩ = some (.string ⟨#[]⟩) := (blk_cell hD 2).trans rfl
   have d3 : w5.cell? ⟨w.heap.size, 3, none⟩ = some (.int .i64 0) := (blk_cell hD 3).trans rfl
   have d4 : w5.cell? ⟨w.heap.size, 4, none⟩ = some (.string ⟨#[]⟩) := (blk_cell hD 4).trans rfl
   have d5 : w5.cell? ⟨w.heap.size, 5, none⟩ = some (.slice none 0 0) := (blk_cell hD 5).trans rfl
   have f0 := blk_frozen hD 0
   have f1 := blk_frozen hD 1
   have f2 := blk_frozen hD 2
   have f3 := blk_frozen hD 3
   have f4 := blk_frozen hD 4
   have f5 := blk_frozen hD 5
   have e0 : w5.cell? ⟨w.heap.size + 1, 0, none⟩ = some (.int .u8 1) := (blk_cell hL 0).trans rfl
   have e1 : w5.cell? ⟨w.heap.size + 1, 1, none⟩ = some (.string who.var) := (blk_cell hL 1).trans rfl
   have e2 : w5.cell? ⟨w.heap.size + 1, 2, none⟩ = some (.string who.val.sym) := (blk_cell hL 2).trans rfl
   have e3 : w5.cell? ⟨w.heap.size + 1, 3, none⟩ = some (.int .i64 who.val.num) := (blk_cell hL 3).trans rfl
   have e4 : w5.cell? ⟨w.heap.size + 1, 4, none⟩ = some (.string x) := (blk_cell hL 4).trans rfl
   have e5 : w5.cell? ⟨w.heap.size + 1, 5, none⟩ = some (.slice A1 ts.length c1) := (blk_cell hL 5).trans rfl
   go_wp2
   have hz : w.heap.size + 2 ≤ w1.heap.size := by simpa using hz1
   have hfar : ∀ q, w1.heap.size ≤ q → ¬ (q = w.heap.size) := fun q hq e => by omega
   exact parseLit_end (w5 := w5) (b := w.heap.size) (p := 0) (x := 0) (l := ⟨1, who, x, ts⟩) (av := .slice A1 ts.length c1) rfl rfl rfl rfl hD
    ⟨⟨_, rfl, Kd.R_mono (Kd.R_lower ((litSet_fr (S := fun q => q = w.heap.size) (Fr.refl _ w5) (Or.inl rfl)).R hR1 hfar) (by omega)) (fun q hq => by omega)⟩,
     (litSet_fr (S := fun _ => False) (hF0.step hF (fun q hq => Or.inr (by omega))) (Or.inr (Nat.le_refl _))).below (Nat.le_refl _) (fun _ q => q.elim)⟩
end Go.Proofs.YtfhpecgknmfnnaaDoor.M
end
section
namespace Go.Proofs.YtfhpecgknmfnnaaDoor.M
section
variable {α : Type} {T : List Tok} {s : ByteArray} {one : Nat → PR α}
theorem tail_small : ∀ (r m : Nat) (xs : List α) (j : Nat), tailP T s one r m = .ok (xs, j) → xs.length ≤ r ∧ ∀ x ∈ xs, ∃ n k, one n = .ok (x, k)
 | 0, m, xs, j, h => by
   unfold tailP at h
   split at h
   · cases h
   · cases h
     exact ⟨Nat.le_refl _, fun x hx => absurd hx List.not_mem_nil⟩
 | r + 1, m, xs, j, h => by
   unfold tailP at h
   split at h
   · cases ho : one (m + 1) with
     | error p => simp [ho] at h
     | ok q =>
       obtain ⟨a, k⟩ := q
       simp only [ho] at h
       cases ht : tailP T s one r k with
       | error p => simp [ht] at h
       | ok q =>
         obtain ⟨ys, i⟩ := q
         simp only [ht] at h
         cases h
         obtain ⟨h1, h2⟩ := tail_small r k ys _ ht
         refine ⟨by simp only [List.length_cons]; omega, fun x hx => ?_⟩
         rcases List.mem_cons.1 hx with rfl | hx
         · exact ⟨_, _, ho⟩
         · exact h2 x hx
   · cases h
     exact ⟨Nat.zero_le _, fun x hx => absurd hx List.not_mem_nil⟩
theorem list_small {most n j : Nat} {xs : List α} (hm : 1 ≤ most) (h : listP T s one most n = .ok (xs, j)) : xs.length ≤ most ∧ ∀ x ∈ xs, ∃ n k, one n = .ok (x, k) := by
 unfold listP at h
 cases ho : one n with
 | error p => simp [ho] at h
 | ok q =>
   obtain ⟨a, m⟩ := q
   simp only [ho] at h
   cases ht : tailP T s one (most - 1) m with
   | error p => simp [ht, addL] at h
   | ok q =>
     obtain ⟨ys, i⟩ := q
     simp only [ht, addL] at h
     cases h
     obtain ⟨h1, h2⟩ := tail_small _ _ _ _ ht
     refine ⟨by simp only [List.length_append, List.length_cons, List.length_nil]; omega, fun x hx => ?_⟩
     rcases List.mem_append.1 hx with hx | hx
     · rw [List.mem_singleton.1 hx]
       exact ⟨_, _, ho⟩
     · exact h2 x hx
end
section
variable {T : List Tok} {s : ByteArray}
theorem atom_small {n i : Nat} {x : ByteArray} {ts : List Term} (h : atomP T s n = .ok ((x, ts), i)) : ts.length ≤ 4 := by
 unfold atomP at h
 cases ht : takeP T s [1] n with
 | error p => simp [ht] at h
 | ok q =>
   obtain ⟨y, m⟩ := q
   simp only [ht] at h
   split at h
   · cases hl : listP T s (termP T s) 4 (m + 1) with
     | error p => simp [hl] at h
     | ok q =>
       obtain ⟨us, j⟩ := q
       simp only [hl] at h
       cases hn : needP T s closes j with
       | error p => simp [hn] at h
       | ok q =>
         simp only [hn] at h
         cases h
         exact (list_small (by decide) hl).1
   · cases h
     exact Nat.zero_le _
theorem said_small {n i : Nat} {r : Term × (ByteArray × List Term)} (h : saidP T s n = .ok (r, i)) : r.2.2.length ≤ 4 := by
 unfold saidP at h
 repeat' split at h
 all_goals first | (cases h; done) | skip
 all_goals (cases h; rename_i ha; first | exact atom_small ha | skip)
theorem literal_small {n i : Nat} {l : Lit} (h : literalP T s n = .ok (l, i)) : l.args.length ≤ 4 := by
 unfold literalP saidL pairP at h
 repeat' split at h
 all_goals first | (cases h; done) | skip
 all_goals (cases h; first | (show _ ≤ _; simp; done) | (rename_i ha; exact said_small ha) | skip)
theorem clause_small {n i : Nat} {c : Clause} (h : clauseP T s n = .ok (c, i)) : c.body.length ≤ 6 ∧ c.head.args.length ≤ 4 ∧ ∀ l ∈ c.body, l.args.length ≤ 4 := by
 unfold clauseP at h
 cases ha : atomP T s n with
 | error p => simp [ha] at h
 | ok q =>
   obtain ⟨⟨x, ts⟩, m⟩ := q
   simp only [ha] at h
   cases hb : bodyP T s m with
   | error p => simp [hb] at h
   | ok q =>
     obtain ⟨ls, j⟩ := q
     simp only [hb] at h
     cases hn : needP T s dot j with
     | error p => simp [hn] at h
     | ok q =>
       simp only [hn] at h
       cases h
       unfold bodyP at hb
       split at hb
       · obtain ⟨h1, h2⟩ := list_small (by decide) hb
         exact ⟨h1, atom_small ha, fun l hl => by obtain ⟨_, _, h3⟩ := h2 l hl; exact literal_small h3⟩
       · cases hb
         exact ⟨Nat.zero_le _, atom_small ha, fun l hl => absurd hl List.not_mem_nil⟩
end
theorem run_ok {α : Type} {s : ByteArray} {one : List Tok → Nat → PR α} {a : α} (h : runP s one = .ok a) : ∃ T n k, one T n = .ok (a, k) := by
 unfold runP at h
 split at h
 · cases h
 · cases ho : one (allT s).1 0 with
   | error p => simp [ho] at h
   | ok q =>
     obtain ⟨b, n⟩ := q
     simp only [ho] at h
     split at h
     · cases h
     · cases h
       exact ⟨_, _, _, ho⟩
theorem parse_small {s : ByteArray} {c : Clause} (h : parseP s = .ok c) : c.body.length ≤ 6 ∧ c.head.args.length ≤ 4 ∧ ∀ l ∈ c.body, l.args.length ≤ 4 := by
 obtain ⟨T, n, k, h⟩ := run_ok h
 exact clause_small h
theorem parseLit_small {s : ByteArray} {r : Term × (ByteArray × List Term)} (h : parseLitP s = .ok r) : r.2.2.length ≤ 4 := by
 obtain ⟨T, n, k, h⟩ := run_ok h
 exact said_small h
end Go.Proofs.YtfhpecgknmfnnaaDoor.M
end
section
namespace Go.Proofs
open Go.Shelf
def Tryd.lrev_ren : Go.Shelf.Ren := ⟨fun | 35 => 96 | n => n, fun | 22 => 89 | 23 => 5 | 3 => 3 | 4 => 4 | 0 => 0 | n => n, fun | n => n⟩
theorem Tryd.lrev : Go.Proofs.SlLaysE.n35 Tryd.prog Tryd.lrev_ren := {
 mixed := by kernel_rfl
 f35 := ⟨Tryd.f96.name, by decide, Tryd.func96.trans (congrArg some (by kernel_rfl))⟩
 t0 := Tryd.underlying0
 a0 := Tryd.isAgg0
 z0 := Tryd.sizeOf0
 v0 := Tryd.zeroValue0
 t3 := Tryd.underlying3
 a3 := Tryd.isAgg3
 z3 := Tryd.sizeOf3
 v3 := Tryd.zeroValue3
 t4 := Tryd.underlying4
 a4 := Tryd.isAgg4
 z4 := Tryd.sizeOf4
 v4 := Tryd.zeroValue4
 t22 := Tryd.underlying89
 a22 := Tryd.isAgg89
 z22 := Tryd.sizeOf89
 v22 := Tryd.zeroValue89
 a23 := Tryd.isAgg5
 z23 := Tryd.sizeOf5 }
end Go.Proofs
end
section
namespace Go.Proofs
open Go.Shelf
def Tryd.lays156_ren : Go.Shelf.Ren := ⟨fun | 156 => 46 | 165 => 68 | 166 => 69 | 169 => 70 | 240 => 89 | 241 => 90 | 276 => 97 | 277 => 98 | n => n, fun | 31 => 70 | 9 => 9 | 3 => 3 | 4 => 4 | 0 => 0 | 20 => 20 | 72 => 115 | 76 => 119 | 70 => 113 | 37 => 89 | 75 => 118 | 127 => 140 | 164 => 145 | 5 => 5 | 80 => 121 | n => n, fun | n => n⟩
theorem Tryd.lays156 : Go.Proofs.Lays.n156 Tryd.prog Tryd.lays156_ren := {
 mixed := by kernel_rfl
 f156 := Tryd.func46.trans (congrArg some (by kernel_rfl))
 f165 := Tryd.func68.trans (congrArg some (by kernel_rfl))
 f166 := Tryd.func69.trans (congrArg some (by kernel_rfl))
 f169 := Tryd.func70.trans (congrArg some (by kernel_rfl))
 f240 := Tryd.func89.trans (congrArg some (by kernel_rfl))
 f241 := Tryd.func90.trans (congrArg some (by kernel_rfl))
 f276 := Tryd.func97.trans (congrArg some (by kernel_rfl))
 f277 := Tryd.func98.trans (congrArg some (by kernel_rfl))
 t0 := Tryd.underlying0
 a0 := Tryd.isAgg0
 z0 := Tryd.sizeOf0
 v0 := Tryd.zeroValue0
 t3 := Tryd.underlying3
 a3 := Tryd.isAgg3
 z3 := Tryd.sizeOf3
 v3 := Tryd.zeroValue3
 t4 := Tryd.underlying4
 a4 := Tryd.isAgg4
 z4 := Tryd.sizeOf4
 v4 := Tryd.zeroValue4
 t9 := Tryd.underlying9
 a9 := Tryd.isAgg9
 z9 := Tryd.sizeOf9
 v9 := Tryd.zeroValue9
 t20 := Tryd.underlying20
 a20 := Tryd.isAgg20
 z20 := Tryd.sizeOf20
 v20 := Tryd.zeroValue20
 t31 := Tryd.underlying70
 a31 := Tryd.isAgg70
 z31 := Tryd.sizeOf70
 v31 := Tryd.zeroValue70
 t37 := Tryd.underlying89
 a37 := Tryd.isAgg89
 z37 := Tryd.sizeOf89
 v37 := Tryd.zeroValue89
 t70 := Tryd.underlying113
 a70 := Tryd.isAgg113
 z70 := Tryd.sizeOf113
 v70 := Tryd.zeroValue113
 t72 := Tryd.underlying115
 a72 := Tryd.isAgg115
 z72 := Tryd.sizeOf115
 v72 := Tryd.zeroValue115
 t75 := Tryd.underlying118
 a75 := Tryd.isAgg118
 z75 := Tryd.sizeOf118
 v75 := Tryd.zeroValue118
 t76 := Tryd.underlying119
 a76 := Tryd.isAgg119
 z76 := Tryd.sizeOf119
 v76 := Tryd.zeroValue119
 t127 := Tryd.underlying140
 a127 := Tryd.isAgg140
 z127 := Tryd.sizeOf140
 v127 := Tryd.zeroValue140
 t164 := Tryd.underlying145
 a164 := Tryd.isAgg145
 z164 := Tryd.sizeOf145
 v164 := Tryd.zeroValue145 }
theorem Tryd.Builder_Extra_156 : Builder.Extra Tryd.prog Tryd.lays156_ren := {
 sizeBuilder := by kernel_rfl
 liesBuilder := by kernel_rfl
 t5 := Tryd.underlying5
 a5 := Tryd.isAgg5
 z5 := Tryd.sizeOf5
 v5 := Tryd.zeroValue5
 infoByte := by kernel_rfl
 cellsByte := by kernel_rfl
 sizeByte := by kernel_rfl
 neB5 := by decide }
open Go.RowKit in
theorem Tryd.strings_Join_none (a : Option Addr) (c : Nat) (sep : ByteArray) (w : World) :
 Calls Tryd.prog 46 #[.slice a 0 c, .string sep] w fun e w' => e = .returned (.string ⟨#[]⟩) ∧ w' = w := Any.strings_Join_none Tryd.lays156 Tryd.Builder_Extra_156 a c sep w
open Go.RowKit in
theorem Tryd.strings_Join (bk o c : Nat) (xs : List ByteArray) (sep : ByteArray) (w : World) (hcells : ∀ (j : Nat) x, xs[j]? = some x → w.cell? ⟨bk, o + j, none⟩ = some (.string x)) (hbk : bk < w.heap.size) (hN : xs.length ≤ 140737488355328) (hcap : xs.length ≤ c) (hlen : (Lib.join (xs.map (·.data.toList)) sep.data.toList).length ≤ 140737488355328) :
 Calls Tryd.prog 46 #[.slice (some ⟨bk, o, none⟩) xs.length c, .string sep] w fun e w' => e = .returned (.string ⟨(Lib.join (xs.map (·.data.toList)) sep.data.toList).toArray⟩) ∧ Below w.heap.size w w' := Any.strings_Join Tryd.lays156 Tryd.Builder_Extra_156 bk o c xs sep w hcells hbk hN hcap hlen
def Tryd.laysM171_ren : Go.Shelf.Ren := ⟨fun | 171 => 13 | 243 => 29 | 246 => 28 | 283 => 47 | 284 => 48 | 285 => 49 | 286 => 50 | 129 => 72 | 317 => 71 | 318 => 73 | 319 => 74 | 320 => 75 | 337 => 91 | 338 => 92 | n => n, fun | 3 => 3 | 9 => 9 | 2 => 2 | 4 => 4 | 171 => 85 | 0 => 0 | 53 => 86 | 37 => 89 | 5 => 5 | 173 => 90 | 212 => 123 | 51 => 124 | 20 => 20 | 213 => 125 | 46 => 127 | 232 => 148 | 233 => 149 | n => n, fun | 17 => 0 | 18 => 1 | 19 => 2 | n => n⟩
theorem Tryd.laysM171 : Go.Proofs.LaysM.n171 Tryd.prog Tryd.laysM171_ren := {
 mixed := by kernel_rfl
 f129 := Tryd.func72.trans (congrArg some (by kernel_rfl))
 f171 := Tryd.func13.trans (congrArg some (by kernel_rfl))
 f243 := Tryd.func29.trans (congrArg some (by kernel_rfl))
 f246 := Tryd.func28.trans (congrArg some (by kernel_rfl))
 f283 := Tryd.func47.trans (congrArg some (by kernel_rfl))
 f284 := Tryd.func48.trans (congrArg some (by kernel_rfl))
 f285 := Tryd.func49.trans (congrArg some (by kernel_rfl))
 f286 := Tryd.func50.trans (congrArg some (by kernel_rfl))
 f317 := Tryd.func71.trans (congrArg some (by kernel_rfl))
 f318 := Tryd.func73.trans (congrArg some (by kernel_rfl))
 f319 := Tryd.func74.trans (congrArg some (by kernel_rfl))
 f320 := Tryd.func75.trans (congrArg some (by kernel_rfl))
 f337 := Tryd.func91.trans (congrArg some (by kernel_rfl))
 f338 := Tryd.func92.trans (congrArg some (by kernel_rfl))
 t0 := Tryd.underlying0
 a0 := Tryd.isAgg0
 z0 := Tryd.sizeOf0
 v0 := Tryd.zeroValue0
 t2 := Tryd.underlying2
 a2 := Tryd.isAgg2
 z2 := Tryd.sizeOf2
 v2 := Tryd.zeroValue2
 t3 := Tryd.underlying3
 a3 := Tryd.isAgg3
 z3 := Tryd.sizeOf3
 v3 := Tryd.zeroValue3
 t4 := Tryd.underlying4
 a4 := Tryd.isAgg4
 z4 := Tryd.sizeOf4
 v4 := Tryd.zeroValue4
 t5 := Tryd.underlying5
 a5 := Tryd.isAgg5
 z5 := Tryd.sizeOf5
 v5 := Tryd.zeroValue5
 t9 := Tryd.underlying9
 a9 := Tryd.isAgg9
 z9 := Tryd.sizeOf9
 v9 := Tryd.zeroValue9
 t20 := Tryd.underlying20
 a20 := Tryd.isAgg20
 z20 := Tryd.sizeOf20
 v20 := Tryd.zeroValue20
 t37 := Tryd.underlying89
 a37 := Tryd.isAgg89
 z37 := Tryd.sizeOf89
 v37 := Tryd.zeroValue89
 t46 := Tryd.underlying127
 a46 := Tryd.isAgg127
 z46 := Tryd.sizeOf127
 v46 := Tryd.zeroValue127
 t51 := Tryd.underlying124
 a51 := Tryd.isAgg124
 z51 := Tryd.sizeOf124
 v51 := Tryd.zeroValue124
 t53 := Tryd.underlying86
 a53 := Tryd.isAgg86
 z53 := Tryd.sizeOf86
 v53 := Tryd.zeroValue86
 t171 := Tryd.underlying85
 a171 := Tryd.isAgg85
 z171 := Tryd.sizeOf85
 v171 := Tryd.zeroValue85
 t173 := Tryd.underlying90
 a173 := Tryd.isAgg90
 z173 := Tryd.sizeOf90
 v173 := Tryd.zeroValue90
 t212 := Tryd.underlying123
 a212 := Tryd.isAgg123
 z212 := Tryd.sizeOf123
 v212 := Tryd.zeroValue123
 t213 := Tryd.underlying125
 a213 := Tryd.isAgg125
 z213 := Tryd.sizeOf125
 t232 := Tryd.underlying148
 a232 := Tryd.isAgg148
 z232 := Tryd.sizeOf148
 v232 := Tryd.zeroValue148
 t233 := Tryd.underlying149
 a233 := Tryd.isAgg149
 z233 := Tryd.sizeOf149
 v233 := Tryd.zeroValue149
 g17 := by kernel_rfl
 g18 := by kernel_rfl
 g19 := by kernel_rfl
 i0 := by kernel_rfl
 i2 := by kernel_rfl
 i3 := by kernel_rfl
 i4 := by kernel_rfl
 i5 := by kernel_rfl
 i9 := by kernel_rfl
 i20 := by kernel_rfl
 i37 := by kernel_rfl
 i46 := by kernel_rfl
 i51 := by kernel_rfl
 i53 := by kernel_rfl
 i171 := by kernel_rfl
 i173 := by kernel_rfl
 i212 := by kernel_rfl
 i232 := by kernel_rfl
 i233 := by kernel_rfl
 m17 := by kernel_rfl
 m18 := by kernel_rfl
 m19 := by kernel_rfl }
open Go.RowKit Go.Sort Go.Lib in
theorem Tryd.strconv_Itoa (n : Int) (h0 : -9223372036854775808 ≤ n) (h1 : n ≤ 9223372036854775807) (w : World) (htab : Lib.TabIs Tryd.prog w "internal/strconv.uint64pow10" .u64 Lib.pow10Tab) :
 Calls Tryd.prog 13 #[.int .i64 n] w fun e w' => e = .returned (.string ⟨(Lib.itoa n).toArray⟩) ∧ ∃ k os, w' = grow (w.drewN k) os := Any.strconv_Itoa Tryd.laysM171 n h0 h1 w htab
end Go.Proofs
end
