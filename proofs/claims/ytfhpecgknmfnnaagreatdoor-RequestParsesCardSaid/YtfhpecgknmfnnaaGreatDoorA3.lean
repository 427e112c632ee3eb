import Derived.Test.YtfhpecgknmfnnaaGreatDoorA2
import Derived.Shelf.SlicesE.Reverse
import Derived.Test.YtfhpecgknmfnnaaGreatDoorProg
import Derived.Shelf.Strings.Builder1
import Derived.Shelf.Strings.Builder2
import Derived.Shelf.Strings.OnBuilder
import Derived.Shelf.Strconv.Itoa0
import Derived.Shelf.Strconv.Itoa1
import Derived.Shelf.LaysM
import Derived.Shelf.Strconv.Itoa2
import Derived.Shelf.Strconv.Itoa3
set_option linter.unusedVariables false
set_option linter.unusedSimpArgs false
section
namespace Go.Proofs.YtfhpecgknmfnnaaGreatDoor.M
open Go.RowKit Go.Proofs.YtfhpecgknmfnnaaGreatDoorW.PrintWords Go.Proofs.YtfhpecgknmfnnaaGreatDoorW.PrintMore Go.Proofs.YtfhpecgknmfnnaaGreatDoorW.PrintLast
attribute [local go_sem] max2_int min2_int max_two min_two
def parseLitP (s : ByteArray) : Except (Int × Int) (Term × (ByteArray × List Term)) := runP s (fun T n => saidP T s n)
def litOf (r : Term × (ByteArray × List Term)) : Lit := ⟨1, r.1, r.2.1, r.2.2⟩
abbrev zeroL : Obj := .cells #[.int .u8 0, .string ⟨#[]⟩, .string ⟨#[]⟩, .int .i64 0, .string ⟨#[]⟩, .slice none 0 0] 28
abbrev oneL : Obj := .cells #[.int .u8 1, .string ⟨#[]⟩, .string ⟨#[]⟩, .int .i64 0, .string ⟨#[]⟩, .slice none 0 0] 28
def ParseLitPost (w : World) (r : Except (Int × Int) (Term × (ByteArray × List Term))) (e : Ending) (w' : World) : Prop := match r with
 | .error (p, x) => e = .returned (.tuple #[litV Lit.z (.slice none 0 0), .int .i64 p, .int .i64 x]) ∧ Below w.heap.size w w'
 | .ok r => (∃ av, e = .returned (.tuple #[litV (litOf r) av, .int .i64 0, .int .i64 0]) ∧ Kd.R kTerm 25 w' w.heap.size (fun q => w.heap.size ≤ q) av r.2.2) ∧ Below w.heap.size w w'
theorem litSet_fr {w w' : World} {S : Nat → Prop} {b : Nat} {l : Lit} {av : Value} (h : Fr S w w') (hx : S b ∨ w.heap.size ≤ b) : Fr S w (litSet w' b l av) :=
 (((((h.set ⟨b, 0, none⟩ hx _).set ⟨b, 1, none⟩ hx _).set ⟨b, 2, none⟩ hx _).set ⟨b, 3, none⟩ hx _).set ⟨b, 4, none⟩ hx _).set ⟨b, 5, none⟩ hx _
set_option maxRecDepth 100000 in
theorem parseLit_end {w5 : World} {R : Ending → World → Prop} {l : Lit} {av : Value} {b : Nat} {p x : Int} {a : Act} (hd : a.defers = []) (h2 : a.tmps.getD 2 undef = .pointer (some ⟨b, 0, none⟩)) (h3 : a.tmps.getD 3 undef = .int .i64 p) (h4 : a.tmps.getD 4 undef = .int .i64 x)
 (hL : w5.heap[b]? = some zeroL) (hR : R (.returned (.tuple #[litV l av, .int .i64 p, .int .i64 x])) (litSet w5 b l av)) :
 bodyPost Tryz.prog Tryz.f72 R .ret a (litSet w5 b l av) := by
 refine bodyPost_ret (results_ctt' (fn := Tryz.f72) (p := 2) (u := 3) (v := 4) rfl _ _ b 28 _ (0, 0) h2 (litSet_blk (k := 0) (who := Term.z) (pred := noStr) (v := .slice none 0 0) hL) (by rfl) (by rfl)) hd ?_
 rw [h3, h4]
 exact hR
set_option maxHeartbeats 4000000 in
set_option maxRecDepth 100000 in
theorem parseLit_calls (s : ByteArray) (w : World) (hs : s.size ≤ maxLen) : Calls Tryz.prog 72 #[.string s] w (ParseLitPost w (parseLitP s)) := by
 have hmf := @hmf
 have hb : ((w.alloc zeroL).alloc oneL).heap[w.heap.size + 1]? = some oneL := by
  have h := heap_alloc_new (w.alloc zeroL) oneL
  rwa [show (w.alloc zeroL).heap.size = w.heap.size + 1 by simp] at h
 have hE31 := Aside0.mk (fun (args : Array Value) (w : World) => enters_ (f := 100) (P := Tryz.prog) Tryz.func100 (by kernel_rfl) rfl args w)
 have hrun := run_calls (w := (w.alloc zeroL).alloc oneL) (b := w.heap.size + 1) (ob := oneL) hs 100 #[.pointer (some ⟨w.heap.size + 1, 0, none⟩)] (fun T n => saidP T s n) (fun w1 r w' => SaidO (w.heap.size + 1) 1 [] 28 w1 r w') hE31.out hb (fun cs h => by simp at h)
  (fun T w0 w1 g hT hg hP hB hf hbb => lit1_calls hT hg hP hB hf hbb)
  (fun w1 r w2 w3 S hI hF hS hq => by obtain ⟨av, h1, h2⟩ := hI; exact ⟨av, hF.blk h1 hS, hF.R h2 hq⟩)
 replace hrun := Aside0.mk hrun
 have hd0 := blk_alloc (heap_alloc_new w zeroL) oneL
 have hF0 : Fr (fun _ => False) w ((w.alloc zeroL).alloc oneL) := ((Fr.refl _ w).alloc _).alloc _
 obtain ⟨r, hr⟩ : ∃ r, r = parseLitP s := ⟨_, rfl⟩
 rw [← hr]
 go_enter Tryz.func72, Tryz.ntmps72
 go_wp2_with fail
 refine hrun.out.mono ?_
 intro e w5 hp
 rw [show runP s (fun T n => saidP T s n) = r from hr.symm] at hp
 clear hrun
 cases r with
 | error q =>
   obtain ⟨p, x⟩ := q
   obtain ⟨rfl, hF⟩ := hp
   have hD := hF.blk hd0 (fun q => by have : w.heap.size = w.heap.size + 1 := q; omega)
   have d0 : w5.cell? ⟨w.heap.size, 0, none⟩ = some (.int .u8 0) := (blk_cell hD 0).trans rfl
   have d1 : w5.cell? ⟨w.heap.size, 1, none⟩ = some (.string ⟨#[]⟩) := (blk_cell hD 1).trans rfl
   have d2 : w5.cell? ⟨w.heap.size, 2, none⟩ = some (.string ⟨#[]⟩) := (blk_cell hD 2).trans rfl
   have d3 : w5.cell? ⟨w.heap.size, 3, none⟩ = some (.int .i64 0) := (blk_cell hD 3).trans rfl
   have d4 : w5.cell? ⟨w.heap.size, 4, none⟩ = some (.string ⟨#[]⟩) := (blk_cell hD 4).trans rfl
   have d5 : w5.cell? ⟨w.heap.size, 5, none⟩ = some (.slice none 0 0) := (blk_cell hD 5).trans rfl
   have f0 := blk_frozen hD 0
   have f1 := blk_frozen hD 1
   have f2 := blk_frozen hD 2
   have f3 := blk_frozen hD 3
   have f4 := blk_frozen hD 4
   have f5 := blk_frozen hD 5
   have hx : (x != 0) = true := by simpa using runP_err s _ (fun T n => saidP_err T s n) (p, x) (show runP s (fun T n => saidP T s n) = _ from hr.symm)
   go_wp2
   exact parseLit_end (w5 := w5) (b := w.heap.size) (p := p) (x := x) (l := Lit.z) (av := .slice none 0 0) rfl rfl rfl rfl hD
    ⟨rfl, (litSet_fr (S := fun _ => False) (hF0.step hF (fun q hq => Or.inr (by omega))) (Or.inr (Nat.le_refl _))).below (Nat.le_refl _) (fun _ q => q.elim)⟩
 | ok r =>
   obtain ⟨who, x, ts⟩ := r
   obtain ⟨rfl, ⟨w1, hz1, av, hL, hR1⟩, hF⟩ := hp
   have hD := hF.blk hd0 (fun q => by have : w.heap.size = w.heap.size + 1 := q; omega)
   obtain ⟨A1, c1, rfl⟩ := Kd.R_slice hR1
   have d0 : w5.cell? ⟨w.heap.size, 0, none⟩ = some (.int .u8 0) := (blk_cell hD 0).trans rfl
   have d1 : w5.cell? ⟨w.heap.size, 1, none⟩ = some (.string ⟨#[]⟩) := (blk_cell hD 1).trans rfl
   have d2 : w5.cell? ⟨w.heap.size, 2, none⟩ = some (.string ⟨#[]⟩) := (blk_cell hD 2).trans rfl
   have d3 : w5.cell? ⟨w.heap.size, 3, none⟩ = some (.int .i64 0) := (blk_cell hD 3).trans rfl
   have d4 : w5.cell? ⟨w.heap.size, 4, none⟩ = some (.string ⟨#[]⟩) := (blk_cell hD 4).trans rfl
   have d5 : w5.cell? ⟨w.heap.size, 5, none⟩ = some (.slice none 0 0) := (blk_cell hD 5).trans rfl
   have f0 := blk_frozen hD 0
   have f1 := blk_frozen hD 1
   have f2 := blk_frozen hD 2
   have f3 := blk_frozen hD 3
   have f4 := blk_frozen hD 4
   have f5 := blk_frozen hD 5
   have e0 : w5.cell? ⟨w.heap.size + 1, 0, none⟩ = some (.int .u8 1) := (blk_cell hL 0).trans rfl
   have e1 : w5.cell? ⟨w.heap.size + 1, 1, none⟩ = some (.string who.var) := (blk_cell hL 1).trans rfl
   have e2 : w5.cell? ⟨w.heap.size + 1, 2, none⟩ = some (.string who.val.sym) := (blk_cell hL 2).trans rfl
   have e3 : w5.cell? ⟨w.heap.size + 1, 3, none⟩ = some (.int .i64 who.val.num) := (blk_cell hL 3).trans rfl
   have e4 : w5.cell? ⟨w.heap.size + 1, 4, none⟩ = some (.string x) := (blk_cell hL 4).trans rfl
   have e5 : w5.cell? ⟨w.heap.size + 1, 5, none⟩ = some (.slice A1 ts.length c1) := (blk_cell hL 5).trans rfl
   go_wp2
   have hz : w.heap.size + 2 ≤ w1.heap.size := by simpa using hz1
   have hfar : ∀ q, w1.heap.size ≤ q → ¬ (q = w.heap.size) := fun q hq e => by omega
   exact parseLit_end (w5 := w5) (b := w.heap.size) (p := 0) (x := 0) (l := ⟨1, who, x, ts⟩) (av := .slice A1 ts.length c1) rfl rfl rfl rfl hD
    ⟨⟨_, rfl, Kd.R_mono (Kd.R_lower ((litSet_fr (S := fun q => q = w.heap.size) (Fr.refl _ w5) (Or.inl rfl)).R hR1 hfar) (by omega)) (fun q hq => by omega)⟩,
     (litSet_fr (S := fun _ => False) (hF0.step hF (fun q hq => Or.inr (by omega))) (Or.inr (Nat.le_refl _))).below (Nat.le_refl _) (fun _ q => q.elim)⟩
end Go.Proofs.YtfhpecgknmfnnaaGreatDoor.M
end
section
namespace Go.Proofs.YtfhpecgknmfnnaaGreatDoor.M
section
variable {α : Type} {T : List Tok} {s : ByteArray} {one : Nat → PR α}
theorem tail_small : ∀ (r m : Nat) (xs : List α) (j : Nat), tailP T s one r m = .ok (xs, j) → xs.length ≤ r ∧ ∀ x ∈ xs, ∃ n k, one n = .ok (x, k)
 | 0, m, xs, j, h => by
   unfold tailP at h
   split at h
   · cases h
   · cases h
     exact ⟨Nat.le_refl _, fun x hx => absurd hx List.not_mem_nil⟩
 | r + 1, m, xs, j, h => by
   unfold tailP at h
   split at h
   · cases ho : one (m + 1) with
     | error p => simp [ho] at h
     | ok q =>
       obtain ⟨a, k⟩ := q
       simp only [ho] at h
       cases ht : tailP T s one r k with
       | error p => simp [ht] at h
       | ok q =>
         obtain ⟨ys, i⟩ := q
         simp only [ht] at h
         cases h
         obtain ⟨h1, h2⟩ := tail_small r k ys _ ht
         refine ⟨by simp only [List.length_cons]; omega, fun x hx => ?_⟩
         rcases List.mem_cons.1 hx with rfl | hx
         · exact ⟨_, _, ho⟩
         · exact h2 x hx
   · cases h
     exact ⟨Nat.zero_le _, fun x hx => absurd hx List.not_mem_nil⟩
theorem list_small {most n j : Nat} {xs : List α} (hm : 1 ≤ most) (h : listP T s one most n = .ok (xs, j)) : xs.length ≤ most ∧ ∀ x ∈ xs, ∃ n k, one n = .ok (x, k) := by
 unfold listP at h
 cases ho : one n with
 | error p => simp [ho] at h
 | ok q =>
   obtain ⟨a, m⟩ := q
   simp only [ho] at h
   cases ht : tailP T s one (most - 1) m with
   | error p => simp [ht, addL] at h
   | ok q =>
     obtain ⟨ys, i⟩ := q
     simp only [ht, addL] at h
     cases h
     obtain ⟨h1, h2⟩ := tail_small _ _ _ _ ht
     refine ⟨by simp only [List.length_append, List.length_cons, List.length_nil]; omega, fun x hx => ?_⟩
     rcases List.mem_append.1 hx with hx | hx
     · rw [List.mem_singleton.1 hx]
       exact ⟨_, _, ho⟩
     · exact h2 x hx
end
section
variable {T : List Tok} {s : ByteArray}
theorem atom_small {n i : Nat} {x : ByteArray} {ts : List Term} (h : atomP T s n = .ok ((x, ts), i)) : ts.length ≤ 4 := by
 unfold atomP at h
 cases ht : takeP T s [1] n with
 | error p => simp [ht] at h
 | ok q =>
   obtain ⟨y, m⟩ := q
   simp only [ht] at h
   split at h
   · cases hl : listP T s (termP T s) 4 (m + 1) with
     | error p => simp [hl] at h
     | ok q =>
       obtain ⟨us, j⟩ := q
       simp only [hl] at h
       cases hn : needP T s closes j with
       | error p => simp [hn] at h
       | ok q =>
         simp only [hn] at h
         cases h
         exact (list_small (by decide) hl).1
   · cases h
     exact Nat.zero_le _
theorem said_small {n i : Nat} {r : Term × (ByteArray × List Term)} (h : saidP T s n = .ok (r, i)) : r.2.2.length ≤ 4 := by
 unfold saidP at h
 repeat' split at h
 all_goals first | (cases h; done) | skip
 all_goals (cases h; rename_i ha; first | exact atom_small ha | skip)
theorem literal_small {n i : Nat} {l : Lit} (h : literalP T s n = .ok (l, i)) : l.args.length ≤ 4 := by
 unfold literalP saidL pairP at h
 repeat' split at h
 all_goals first | (cases h; done) | skip
 all_goals (cases h; first | (show _ ≤ _; simp; done) | (rename_i ha; exact said_small ha) | skip)
theorem clause_small {n i : Nat} {c : Clause} (h : clauseP T s n = .ok (c, i)) : c.body.length ≤ 6 ∧ c.head.args.length ≤ 4 ∧ ∀ l ∈ c.body, l.args.length ≤ 4 := by
 unfold clauseP at h
 cases ha : atomP T s n with
 | error p => simp [ha] at h
 | ok q =>
   obtain ⟨⟨x, ts⟩, m⟩ := q
   simp only [ha] at h
   cases hb : bodyP T s m with
   | error p => simp [hb] at h
   | ok q =>
     obtain ⟨ls, j⟩ := q
     simp only [hb] at h
     cases hn : needP T s dot j with
     | error p => simp [hn] at h
     | ok q =>
       simp only [hn] at h
       cases h
       unfold bodyP at hb
       split at hb
       · obtain ⟨h1, h2⟩ := list_small (by decide) hb
         exact ⟨h1, atom_small ha, fun l hl => by obtain ⟨_, _, h3⟩ := h2 l hl; exact literal_small h3⟩
       · cases hb
         exact ⟨Nat.zero_le _, atom_small ha, fun l hl => absurd hl List.not_mem_nil⟩
end
theorem run_ok {α : Type} {s : ByteArray} {one : List Tok → Nat → PR α} {a : α} (h : runP s one = .ok a) : ∃ T n k, one T n = .ok (a, k) := by
 unfold runP at h
 split at h
 · cases h
 · cases ho : one (allT s).1 0 with
   | error p => simp [ho] at h
   | ok q =>
     obtain ⟨b, n⟩ := q
     simp only [ho] at h
     split at h
     · cases h
     · cases h
       exact ⟨_, _, _, ho⟩
theorem parse_small {s : ByteArray} {c : Clause} (h : parseP s = .ok c) : c.body.length ≤ 6 ∧ c.head.args.length ≤ 4 ∧ ∀ l ∈ c.body, l.args.length ≤ 4 := by
 obtain ⟨T, n, k, h⟩ := run_ok h
 exact clause_small h
theorem parseLit_small {s : ByteArray} {r : Term × (ByteArray × List Term)} (h : parseLitP s = .ok r) : r.2.2.length ≤ 4 := by
 obtain ⟨T, n, k, h⟩ := run_ok h
 exact said_small h
end Go.Proofs.YtfhpecgknmfnnaaGreatDoor.M
end
section
namespace Go.Proofs
open Go.Shelf
def Tryz.lrev_ren : Go.Shelf.Ren := ⟨fun | 35 => 136 | n => n, fun | 22 => 111 | 23 => 5 | 3 => 3 | 4 => 4 | 0 => 0 | n => n, fun | n => n⟩
theorem Tryz.lrev : Go.Proofs.SlLaysE.n35 Tryz.prog Tryz.lrev_ren := {
 mixed := by kernel_rfl
 f35 := ⟨Tryz.f136.name, by decide, Tryz.func136.trans (congrArg some (by kernel_rfl))⟩
 t0 := Tryz.underlying0
 a0 := Tryz.isAgg0
 z0 := Tryz.sizeOf0
 v0 := Tryz.zeroValue0
 t3 := Tryz.underlying3
 a3 := Tryz.isAgg3
 z3 := Tryz.sizeOf3
 v3 := Tryz.zeroValue3
 t4 := Tryz.underlying4
 a4 := Tryz.isAgg4
 z4 := Tryz.sizeOf4
 v4 := Tryz.zeroValue4
 t22 := Tryz.underlying111
 a22 := Tryz.isAgg111
 z22 := Tryz.sizeOf111
 v22 := Tryz.zeroValue111
 a23 := Tryz.isAgg5
 z23 := Tryz.sizeOf5 }
end Go.Proofs
end
section
namespace Go.Proofs
open Go.Shelf
def Tryz.lays156_ren : Go.Shelf.Ren := ⟨fun | 156 => 87 | 165 => 110 | 166 => 111 | 169 => 112 | 240 => 128 | 241 => 129 | 276 => 137 | 277 => 138 | n => n, fun | 31 => 110 | 9 => 9 | 3 => 3 | 4 => 4 | 0 => 0 | 20 => 20 | 72 => 148 | 76 => 151 | 70 => 146 | 37 => 111 | 75 => 150 | 127 => 166 | 164 => 171 | 5 => 5 | 80 => 153 | n => n, fun | n => n⟩
theorem Tryz.lays156 : Go.Proofs.Lays.n156 Tryz.prog Tryz.lays156_ren := {
 mixed := by kernel_rfl
 f156 := Tryz.func87.trans (congrArg some (by kernel_rfl))
 f165 := Tryz.func110.trans (congrArg some (by kernel_rfl))
 f166 := Tryz.func111.trans (congrArg some (by kernel_rfl))
 f169 := Tryz.func112.trans (congrArg some (by kernel_rfl))
 f240 := Tryz.func128.trans (congrArg some (by kernel_rfl))
 f241 := Tryz.func129.trans (congrArg some (by kernel_rfl))
 f276 := Tryz.func137.trans (congrArg some (by kernel_rfl))
 f277 := Tryz.func138.trans (congrArg some (by kernel_rfl))
 t0 := Tryz.underlying0
 a0 := Tryz.isAgg0
 z0 := Tryz.sizeOf0
 v0 := Tryz.zeroValue0
 t3 := Tryz.underlying3
 a3 := Tryz.isAgg3
 z3 := Tryz.sizeOf3
 v3 := Tryz.zeroValue3
 t4 := Tryz.underlying4
 a4 := Tryz.isAgg4
 z4 := Tryz.sizeOf4
 v4 := Tryz.zeroValue4
 t9 := Tryz.underlying9
 a9 := Tryz.isAgg9
 z9 := Tryz.sizeOf9
 v9 := Tryz.zeroValue9
 t20 := Tryz.underlying20
 a20 := Tryz.isAgg20
 z20 := Tryz.sizeOf20
 v20 := Tryz.zeroValue20
 t31 := Tryz.underlying110
 a31 := Tryz.isAgg110
 z31 := Tryz.sizeOf110
 v31 := Tryz.zeroValue110
 t37 := Tryz.underlying111
 a37 := Tryz.isAgg111
 z37 := Tryz.sizeOf111
 v37 := Tryz.zeroValue111
 t70 := Tryz.underlying146
 a70 := Tryz.isAgg146
 z70 := Tryz.sizeOf146
 v70 := Tryz.zeroValue146
 t72 := Tryz.underlying148
 a72 := Tryz.isAgg148
 z72 := Tryz.sizeOf148
 v72 := Tryz.zeroValue148
 t75 := Tryz.underlying150
 a75 := Tryz.isAgg150
 z75 := Tryz.sizeOf150
 v75 := Tryz.zeroValue150
 t76 := Tryz.underlying151
 a76 := Tryz.isAgg151
 z76 := Tryz.sizeOf151
 v76 := Tryz.zeroValue151
 t127 := Tryz.underlying166
 a127 := Tryz.isAgg166
 z127 := Tryz.sizeOf166
 v127 := Tryz.zeroValue166
 t164 := Tryz.underlying171
 a164 := Tryz.isAgg171
 z164 := Tryz.sizeOf171
 v164 := Tryz.zeroValue171 }
theorem Tryz.Builder_Extra_156 : Builder.Extra Tryz.prog Tryz.lays156_ren := {
 sizeBuilder := by kernel_rfl
 liesBuilder := by kernel_rfl
 t5 := Tryz.underlying5
 a5 := Tryz.isAgg5
 z5 := Tryz.sizeOf5
 v5 := Tryz.zeroValue5
 infoByte := by kernel_rfl
 cellsByte := by kernel_rfl
 sizeByte := by kernel_rfl
 neB5 := by decide }
open Go.RowKit in
theorem Tryz.strings_Join_none (a : Option Addr) (c : Nat) (sep : ByteArray) (w : World) :
 Calls Tryz.prog 87 #[.slice a 0 c, .string sep] w fun e w' => e = .returned (.string ⟨#[]⟩) ∧ w' = w := Any.strings_Join_none Tryz.lays156 Tryz.Builder_Extra_156 a c sep w
open Go.RowKit in
theorem Tryz.strings_Join (bk o c : Nat) (xs : List ByteArray) (sep : ByteArray) (w : World) (hcells : ∀ (j : Nat) x, xs[j]? = some x → w.cell? ⟨bk, o + j, none⟩ = some (.string x)) (hbk : bk < w.heap.size) (hN : xs.length ≤ 140737488355328) (hcap : xs.length ≤ c) (hlen : (Lib.join (xs.map (·.data.toList)) sep.data.toList).length ≤ 140737488355328) :
 Calls Tryz.prog 87 #[.slice (some ⟨bk, o, none⟩) xs.length c, .string sep] w fun e w' => e = .returned (.string ⟨(Lib.join (xs.map (·.data.toList)) sep.data.toList).toArray⟩) ∧ Below w.heap.size w w' := Any.strings_Join Tryz.lays156 Tryz.Builder_Extra_156 bk o c xs sep w hcells hbk hN hcap hlen
def Tryz.laysM171_ren : Go.Shelf.Ren := ⟨fun | 171 => 27 | 243 => 61 | 246 => 60 | 283 => 88 | 284 => 89 | 285 => 90 | 286 => 91 | 129 => 114 | 317 => 113 | 318 => 115 | 319 => 116 | 320 => 117 | 337 => 130 | 338 => 131 | n => n, fun | 3 => 3 | 9 => 9 | 2 => 2 | 4 => 4 | 171 => 129 | 0 => 0 | 53 => 130 | 37 => 111 | 5 => 5 | 173 => 133 | 212 => 155 | 51 => 156 | 20 => 20 | 213 => 157 | 46 => 159 | 232 => 174 | 233 => 175 | n => n, fun | 17 => 0 | 18 => 1 | 19 => 2 | n => n⟩
theorem Tryz.laysM171 : Go.Proofs.LaysM.n171 Tryz.prog Tryz.laysM171_ren := {
 mixed := by kernel_rfl
 f129 := Tryz.func114.trans (congrArg some (by kernel_rfl))
 f171 := Tryz.func27.trans (congrArg some (by kernel_rfl))
 f243 := Tryz.func61.trans (congrArg some (by kernel_rfl))
 f246 := Tryz.func60.trans (congrArg some (by kernel_rfl))
 f283 := Tryz.func88.trans (congrArg some (by kernel_rfl))
 f284 := Tryz.func89.trans (congrArg some (by kernel_rfl))
 f285 := Tryz.func90.trans (congrArg some (by kernel_rfl))
 f286 := Tryz.func91.trans (congrArg some (by kernel_rfl))
 f317 := Tryz.func113.trans (congrArg some (by kernel_rfl))
 f318 := Tryz.func115.trans (congrArg some (by kernel_rfl))
 f319 := Tryz.func116.trans (congrArg some (by kernel_rfl))
 f320 := Tryz.func117.trans (congrArg some (by kernel_rfl))
 f337 := Tryz.func130.trans (congrArg some (by kernel_rfl))
 f338 := Tryz.func131.trans (congrArg some (by kernel_rfl))
 t0 := Tryz.underlying0
 a0 := Tryz.isAgg0
 z0 := Tryz.sizeOf0
 v0 := Tryz.zeroValue0
 t2 := Tryz.underlying2
 a2 := Tryz.isAgg2
 z2 := Tryz.sizeOf2
 v2 := Tryz.zeroValue2
 t3 := Tryz.underlying3
 a3 := Tryz.isAgg3
 z3 := Tryz.sizeOf3
 v3 := Tryz.zeroValue3
 t4 := Tryz.underlying4
 a4 := Tryz.isAgg4
 z4 := Tryz.sizeOf4
 v4 := Tryz.zeroValue4
 t5 := Tryz.underlying5
 a5 := Tryz.isAgg5
 z5 := Tryz.sizeOf5
 v5 := Tryz.zeroValue5
 t9 := Tryz.underlying9
 a9 := Tryz.isAgg9
 z9 := Tryz.sizeOf9
 v9 := Tryz.zeroValue9
 t20 := Tryz.underlying20
 a20 := Tryz.isAgg20
 z20 := Tryz.sizeOf20
 v20 := Tryz.zeroValue20
 t37 := Tryz.underlying111
 a37 := Tryz.isAgg111
 z37 := Tryz.sizeOf111
 v37 := Tryz.zeroValue111
 t46 := Tryz.underlying159
 a46 := Tryz.isAgg159
 z46 := Tryz.sizeOf159
 v46 := Tryz.zeroValue159
 t51 := Tryz.underlying156
 a51 := Tryz.isAgg156
 z51 := Tryz.sizeOf156
 v51 := Tryz.zeroValue156
 t53 := Tryz.underlying130
 a53 := Tryz.isAgg130
 z53 := Tryz.sizeOf130
 v53 := Tryz.zeroValue130
 t171 := Tryz.underlying129
 a171 := Tryz.isAgg129
 z171 := Tryz.sizeOf129
 v171 := Tryz.zeroValue129
 t173 := Tryz.underlying133
 a173 := Tryz.isAgg133
 z173 := Tryz.sizeOf133
 v173 := Tryz.zeroValue133
 t212 := Tryz.underlying155
 a212 := Tryz.isAgg155
 z212 := Tryz.sizeOf155
 v212 := Tryz.zeroValue155
 t213 := Tryz.underlying157
 a213 := Tryz.isAgg157
 z213 := Tryz.sizeOf157
 t232 := Tryz.underlying174
 a232 := Tryz.isAgg174
 z232 := Tryz.sizeOf174
 v232 := Tryz.zeroValue174
 t233 := Tryz.underlying175
 a233 := Tryz.isAgg175
 z233 := Tryz.sizeOf175
 v233 := Tryz.zeroValue175
 g17 := by kernel_rfl
 g18 := by kernel_rfl
 g19 := by kernel_rfl
 i0 := by kernel_rfl
 i2 := by kernel_rfl
 i3 := by kernel_rfl
 i4 := by kernel_rfl
 i5 := by kernel_rfl
 i9 := by kernel_rfl
 i20 := by kernel_rfl
 i37 := by kernel_rfl
 i46 := by kernel_rfl
 i51 := by kernel_rfl
 i53 := by kernel_rfl
 i171 := by kernel_rfl
 i173 := by kernel_rfl
 i212 := by kernel_rfl
 i232 := by kernel_rfl
 i233 := by kernel_rfl
 m17 := by kernel_rfl
 m18 := by kernel_rfl
 m19 := by kernel_rfl }
open Go.RowKit Go.Sort Go.Lib in
theorem Tryz.strconv_Itoa (n : Int) (h0 : -9223372036854775808 ≤ n) (h1 : n ≤ 9223372036854775807) (w : World) (htab : Lib.TabIs Tryz.prog w "internal/strconv.uint64pow10" .u64 Lib.pow10Tab) :
 Calls Tryz.prog 27 #[.int .i64 n] w fun e w' => e = .returned (.string ⟨(Lib.itoa n).toArray⟩) ∧ ∃ k os, w' = grow (w.drewN k) os := Any.strconv_Itoa Tryz.laysM171 n h0 h1 w htab
end Go.Proofs
end
