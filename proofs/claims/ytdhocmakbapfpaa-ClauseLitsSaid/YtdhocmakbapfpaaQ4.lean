import Derived.Test.YtdhocmakbapfpaaQ3
import Derived.Defers
import Derived.Recover
import Derived.Shelf.SlicesE.Reverse
import Derived.Test.YtdhocmakbapfpaaProg
import Derived.Shelf.Strings.Builder1
import Derived.Shelf.Strings.Builder2
import Derived.Shelf.Strings.OnBuilder
set_option linter.unusedVariables false
set_option linter.unusedSimpArgs false
section
namespace Go.Proofs.Ytdhocmakbapfpaa.M
open Go.RowKit Go.Proofs.YtdhocmakbapfpaaW.PrintWords Go.Proofs.YtdhocmakbapfpaaW.PrintMore Go.Proofs.YtdhocmakbapfpaaW.PrintLast
attribute [local go_sem] max2_int min2_int max_two min_two
abbrev turns : ByteArray := ⟨#[58, 45]⟩
abbrev dot : ByteArray := ⟨#[46]⟩
def bodyP (T : List Tok) (s : ByteArray) (m : Nat) : PR (List Lit) := if isT T s m turns then listP T s (literalP T s) 6 (m + 1) else .ok ([], m)
def clauseP (T : List Tok) (s : ByteArray) (n : Nat) : PR Clause := match atomP T s n with
 | .error p => .error p
 | .ok ((x, ts), m) => match bodyP T s m with
   | .error p => .error p
   | .ok (ls, j) => match needP T s dot j with
     | .error p => .error p
     | .ok (_, i) => .ok (⟨⟨1, Term.z, x, ts⟩, ls⟩, i)
def ClauseO (b : Nat) (w : World) (c : Clause) (w' : World) : Prop :=
 ∃ av bv, w'.heap[b]? = some (.cells (litC c.head.kind c.head.who c.head.pred av [bv]) 31 (0, 0)) ∧ Kd.R kTerm 25 w' w.heap.size (fun q => w.heap.size ≤ q) av c.head.args ∧ Kd.R kLit 28 w' w.heap.size (fun q => w.heap.size ≤ q) bv c.body
set_option maxHeartbeats 8000000 in
set_option maxRecDepth 100000 in
theorem clause1_calls {w0 : World} {T : List Tok} {s : ByteArray} {g b n : Nat} {w : World} (hT : TokOk s T) (hgb : g ≠ b) (h : PAt w0 T s w g n) (hB : Bel w0 w) (hb0 : Free w0 b)
 (hL : w.heap[b]? = some (.cells (litC 1 Term.z noStr (.slice none 0 0) [.slice none 0 0]) 31 (0, 0))) :
 Calls Try.prog 31 #[.pointer (some ⟨g, 0, none⟩), .pointer (some ⟨b, 0, none⟩)] w (OPost w0 T s g (atomF g b) w (ClauseO b w) (clauseP T s n)) := by
 have hgw := h.lt
 have hbw := blk_lt hL
 have hg0 := h.ge
 have hmx := h.max
 have hbz := hB.size
 have hP1 := Aside0.mk (h.alloc (.cells #[.pointer (some ⟨g, 0, none⟩)] 63))
 have hB1 := Aside0.mk (hB.alloc (.cells #[.pointer (some ⟨g, 0, none⟩)] 63))
 have hL1 := Aside0.mk (blk_alloc hL (.cells #[.pointer (some ⟨g, 0, none⟩)] 63))
 have hBw := Aside0.mk hB
 have hmf := @hmf
 clear h hB hL
 go_enter Try.func31, Try.ntmps31
 go_wp2_with fail
 refine (atom_calls hT hgb hP1.out hB1.out hb0 hL1.out).mono ?_
 intro e w2 hp
 obtain ⟨r, hr⟩ : ∃ r, r = atomP T s n := ⟨_, rfl⟩
 rw [← hr] at hp
 cases r with
 | error p =>
   obtain ⟨rfl, hF2⟩ := hp
   have hE := Aside0.mk (show clauseP T s n = .error p by unfold clauseP; rw [← hr])
   clear hr
   go_wp2
   refine ⟨rfl, ?_⟩
   rw [hE.out]
   exact ⟨rfl, ((Fr.refl (atomF g b) w).alloc _).trans hF2⟩
 | ok r =>
   obtain ⟨⟨x, ts⟩, m⟩ := r
   obtain ⟨rfl, hP2, ⟨av, hL2, hR2⟩, hF2⟩ := hp
   have hE := Aside0.mk (show clauseP T s n = match bodyP T s m with
    | .error p => .error p
    | .ok (ls, j) => match needP T s dot j with
      | .error p => .error p
      | .ok (_, i) => .ok (⟨⟨1, Term.z, x, ts⟩, ls⟩, i) by unfold clauseP; rw [← hr])
   have hp2 := Aside0.mk (hF2.blk (heap_alloc_new w (.cells #[.pointer (some ⟨g, 0, none⟩)] 63)) (fun q => by rcases q with q | q <;> omega))
   have cp2 : w2.cell? ⟨w.heap.size, 0, none⟩ = some (.pointer (some ⟨g, 0, none⟩)) := (blk_cell hp2.out 0).trans rfl
   have hz2 := hF2.size
   have hR2 := Aside0.mk (Kd.R_mono (Kd.R_lower (Kd.R_bound hR2) (by simp : w.heap.size ≤ _)) (ok' := fun q => w.heap.size ≤ q ∧ q < w2.heap.size) (fun q hq => ⟨by have := hq.1; simp at this; omega, hq.2.2.1⟩))
   have hF2 := Aside0.mk (((Fr.refl (atomF g b) w).alloc (.cells #[.pointer (some ⟨g, 0, none⟩)] 63)).trans hF2)
   have hP2 := Aside0.mk hP2
   have hL2 := Aside0.mk hL2
   have hB2 := Aside0.mk (hBw.out.fr hF2.out (fun q hq => by rcases hq with rfl | rfl; exact Or.inl hg0; exact hb0))
   have hm1 := hP2.out.max1 hT
   have hmx2 := hP2.out.max
   simp at hz2
   clear hr hP1 hB1 hL1
   cases hc : isT T s m turns
   · have hE2 := Aside0.mk (show clauseP T s n = match needP T s dot m with
      | .error p => .error p
      | .ok (_, i) => .ok (⟨⟨1, Term.z, x, ts⟩, []⟩, i) by rw [hE.out]; unfold bodyP; rw [hc]; rfl)
     replace hc := Aside0.mk hc
     go_wp2_with fail
     refine (is_calls 0 m turns (by omega) hP2.out hB2.out hT (by omega)).mono ?_; rintro e w3 ⟨rfl, hd⟩
     rw [hc.out]
     have cp3 : w3.cell? ⟨w.heap.size, 0, none⟩ = some (.pointer (some ⟨g, 0, none⟩)) := (blk_cell (blk_drawn hp2.out hd) 0).trans rfl
     have hP3 := Aside0.mk (hP2.out.drawn hd)
     have hF3 := Aside0.mk (hF2.out.drawn hd)
     have hL3 := Aside0.mk (blk_drawn hL2.out hd)
     have hB3 := Aside0.mk (bel_drawn hB2.out hd)
     have hR3 := Aside0.mk (((Fr.refl (fun _ => False) w2).drawn hd).R hR2.out (fun _ _ => id))
     clear hd hP2 hF2 hL2 hB2 hR2 cp2 hp2
     go_wp2_with fail
     refine (need_calls dot hP3.out hB3.out hT).mono ?_
     intro e w8 hp
     obtain ⟨r, hr⟩ : ∃ r, r = needP T s dot m := ⟨_, rfl⟩
     rw [← hr] at hp
     cases r with
     | error p =>
       obtain ⟨rfl, hF8⟩ := hp
       have hE3 := Aside0.mk (show clauseP T s n = .error p by rw [hE2.out, ← hr])
       clear hr
       go_wp2
       refine ⟨rfl, ?_⟩
       rw [hE3.out]
       exact ⟨rfl, hF3.out.trans (hF8.mono (fun q hq => Or.inl hq))⟩
     | ok r =>
       obtain ⟨_, i⟩ := r
       obtain ⟨⟨v, rfl, rfl⟩, hP8, hF8⟩ := hp
       have hE3 := Aside0.mk (show clauseP T s n = .ok (⟨⟨1, Term.z, x, ts⟩, []⟩, i) by rw [hE2.out, ← hr])
       clear hr
       go_wp2
       go_end0
       rw [hE3.out]
       exact ⟨rfl, hP8, ⟨av, _, hF8.blk hL3.out (Ne.symm hgb), Kd.R_mono (hF8.R hR3.out (fun q hq e => by have : q = g := e; have := hq.1; omega)) (fun q hq => hq.1), Kd.R_nil _ _ _ _ _⟩, hF3.out.trans (hF8.mono (fun q hq => Or.inl hq))⟩
   · have hl := isT_lt hc
     have hE2 := Aside0.mk (show clauseP T s n = match listP T s (literalP T s) 6 (m + 1) with
      | .error p => .error p
      | .ok (ls, j) => match needP T s dot j with
        | .error p => .error p
        | .ok (_, i) => .ok (⟨⟨1, Term.z, x, ts⟩, ls⟩, i) by rw [hE.out]; unfold bodyP; rw [hc]; rfl)
     replace hc := Aside0.mk hc
     go_wp2_with fail
     refine (is_calls 0 m turns (by omega) hP2.out hB2.out hT (by omega)).mono ?_; rintro e w5 ⟨rfl, hd⟩
     rw [hc.out]
     have hp5 := Aside0.mk (blk_drawn hp2.out hd)
     have cp5 : w5.cell? ⟨w.heap.size, 0, none⟩ = some (.pointer (some ⟨g, 0, none⟩)) := (blk_cell hp5.out 0).trans rfl
     have hP5 := Aside0.mk (hP2.out.drawn hd)
     have hF5 := Aside0.mk (hF2.out.drawn hd)
     have hL5 := Aside0.mk (blk_drawn hL2.out hd)
     have hB5 := Aside0.mk (bel_drawn hB2.out hd)
     have hR5 := Aside0.mk (((Fr.refl (fun _ => False) w2).drawn hd).R hR2.out (fun _ _ => id))
     have hz5 := drawn_size hd
     clear hd hP2 hF2 hL2 hB2 hR2 cp2 hp2
     obtain ⟨A5, c5, p0, p1, p2, q2, hm5, _, _⟩ := hP5.out.cells
     go_wp2_with fail
     have hP6 := Aside0.mk (hP5.out.to (m + 1) ((m : Int) + 1) (by omega) (by omega))
     have hF6 := Aside0.mk (hF5.out.set ⟨g, 2, none⟩ (Or.inl (Or.inl rfl)) (.int .i64 ((m : Int) + 1)))
     have hB6 := Aside0.mk (hB5.out.setCell (p := ⟨g, 2, none⟩) hg0 (.int .i64 ((m : Int) + 1)))
     have hI6 : Aside0 (BodyI g b w.heap.size w5.heap.size 1 Term.z x av [] (w5.setCell ⟨g, 2, none⟩ (.int .i64 ((m : Int) + 1)))) :=
      ⟨_, blk_far hL5.out (Ne.symm hgb), blk_far hp5.out (by simp; omega), Kd.R_nil _ _ _ _ _, by simp⟩
     have hR6 := Aside0.mk (Kd.R_far (p := ⟨g, 2, none⟩) hR5.out (fun q hq e => by have : q = g := e; have := hq.1; omega) (.int .i64 ((m : Int) + 1)))
     have hE65 := Aside0.mk (fun (args : Array Value) (w : World) => enters_ (f := 35) (P := Try.prog) Try.func35 (by kernel_rfl) rfl args w)
     have hset : Aside0 (∀ (w1 : World) (u : Int), Fr (fun q => q = g) w1 (w1.setCell ⟨g, 2, none⟩ (.int .i64 u))) := ⟨fun w1 u => (Fr.refl (fun q => q = g) w1).set ⟨g, 2, none⟩ (Or.inl rfl) (.int .i64 u)⟩
     refine (list_calls (w0 := w0) (T := T) (s := s) (g := g) (n := m + 1) (S := atomS g b w5.heap.size) (fun acc w' => BodyI g b w.heap.size w5.heap.size 1 Term.z x av acc w') (literalP T s) 35 #[.pointer (some ⟨b, 0, none⟩), .pointer (some ⟨w.heap.size, 0, none⟩)] 6 (by omega) [] hE65.out (Or.inl rfl)
      (fun q hq => by rcases hq with rfl | rfl | hq; exact Or.inl hg0; exact hb0; exact Or.inl (Nat.le_trans hB5.out.size hq))
      (fun acc n w' hacc hP hB hI => body1_calls hT hgb (by omega) (by omega) (by omega) (by omega) (by omega) acc n w' (by simp at hacc; omega) hP hB hI)
      (fun acc w1 w2 hI hd => hI.fr (S := fun _ => False) ((Fr.refl _ w1).drawn hd) id id (fun _ _ => id))
      (fun acc w1 u hI => hI.fr (hset.out w1 u) (Ne.symm hgb) (by omega) (fun q hq => by omega))
      hP6.out hB6.out hT hI6.out).mono ?_
     intro e w7 hp
     obtain ⟨r, hr⟩ : ∃ r, r = listP T s (literalP T s) 6 (m + 1) := ⟨_, rfl⟩
     rw [← hr] at hp
     cases r with
     | error p =>
       obtain ⟨rfl, hF7⟩ := hp
       have hE3 := Aside0.mk (show clauseP T s n = .error p by rw [hE2.out, ← hr])
       clear hr
       go_wp2
       refine ⟨rfl, ?_⟩
       rw [hE3.out]
       exact ⟨rfl, hF6.out.step hF7 (fun q hq => by rcases hq with rfl | rfl | hq; exact Or.inl (Or.inl rfl); exact Or.inl (Or.inr rfl); exact Or.inr (by omega))⟩
     | ok r =>
       obtain ⟨ls, j⟩ := r
       obtain ⟨rfl, hP7, hI7, hF7⟩ := hp
       rw [List.nil_append] at hI7
       have hE3 := Aside0.mk (show clauseP T s n = match needP T s dot j with
        | .error p => .error p
        | .ok (_, i) => .ok (⟨⟨1, Term.z, x, ts⟩, ls⟩, i) by rw [hE2.out, ← hr])
       have hR7 := Aside0.mk (hF7.R hR6.out (fun q hq e => by have := hq.1; have := hq.2; rcases e with e | e | e <;> omega))
       have hF7 := Aside0.mk (hF6.out.step hF7 (fun q hq => by rcases hq with rfl | rfl | hq; exact Or.inl (Or.inl rfl); exact Or.inl (Or.inr rfl); exact Or.inr (by omega)))
       have hB7 := Aside0.mk (hBw.out.fr hF7.out (fun q hq => by rcases hq with rfl | rfl; exact Or.inl hg0; exact hb0))
       have hP7 := Aside0.mk hP7
       obtain ⟨v7, hL7, hp7, hV7, _⟩ := hI7
       have cp7 : w7.cell? ⟨w.heap.size, 0, none⟩ = some (.pointer (some ⟨g, 0, none⟩)) := (blk_cell hp7 0).trans rfl
       have hL7 := Aside0.mk hL7
       have hV7 := Aside0.mk hV7
       clear hr hP5 hF5 hL5 hp5 cp5 p0 p1 p2 q2 hP6 hF6 hB6 hI6 hp7 hR5 hR6
       go_wp2_with fail
       refine (need_calls dot hP7.out hB7.out hT).mono ?_
       intro e w8 hp
       obtain ⟨r, hr⟩ : ∃ r, r = needP T s dot j := ⟨_, rfl⟩
       rw [← hr] at hp
       cases r with
       | error p =>
         obtain ⟨rfl, hF8⟩ := hp
         have hE4 := Aside0.mk (show clauseP T s n = .error p by rw [hE3.out, ← hr])
         clear hr
         go_wp2
         refine ⟨rfl, ?_⟩
         rw [hE4.out]
         exact ⟨rfl, hF7.out.trans (hF8.mono (fun q hq => Or.inl hq))⟩
       | ok r =>
         obtain ⟨_, i⟩ := r
         obtain ⟨⟨v, rfl, rfl⟩, hP8, hF8⟩ := hp
         have hE4 := Aside0.mk (show clauseP T s n = .ok (⟨⟨1, Term.z, x, ts⟩, ls⟩, i) by rw [hE3.out, ← hr])
         clear hr
         go_wp2
         go_end0
         rw [hE4.out]
         exact ⟨rfl, hP8, ⟨av, v7, hF8.blk hL7.out (Ne.symm hgb), Kd.R_mono (hF8.R hR7.out (fun q hq e => by have : q = g := e; have := hq.1; omega)) (fun q hq => hq.1), Kd.R_mono (Kd.R_lower (hF8.R hV7.out (fun q hq e => by have : q = g := e; omega)) (by omega)) (fun q hq => by omega)⟩, hF7.out.trans (hF8.mono (fun q hq => Or.inl hq))⟩
set_option maxHeartbeats 4000000 in
set_option maxRecDepth 100000 in
theorem lit1_calls {w0 : World} {T : List Tok} {s : ByteArray} {g b n : Nat} {w : World} (hT : TokOk s T) (hgb : g ≠ b) (h : PAt w0 T s w g n) (hB : Bel w0 w) (hb0 : Free w0 b)
 (hL : w.heap[b]? = some (.cells (litC 1 Term.z noStr (.slice none 0 0) []) 28 (0, 0))) :
 Calls Try.prog 45 #[.pointer (some ⟨g, 0, none⟩), .pointer (some ⟨b, 0, none⟩)] w (OPost w0 T s g (atomF g b) w (SaidO b 1 [] 28 w) (saidP T s n)) := by
 go_enter Try.func45, Try.ntmps45
 go_wp2_with fail
 refine (said_calls hT hgb h hB hb0 hL).mono ?_
 intro e w2 hp
 obtain ⟨r, hr⟩ : ∃ r, r = saidP T s n := ⟨_, rfl⟩
 rw [← hr] at hp
 cases r with
 | error p =>
   obtain ⟨rfl, hF2⟩ := hp
   go_wp2
   refine ⟨rfl, ?_⟩
   rw [← hr]
   exact ⟨rfl, hF2⟩
 | ok r =>
   obtain ⟨r, m⟩ := r
   obtain ⟨rfl, hP2, hO2, hF2⟩ := hp
   go_wp2
   go_end0
   rw [← hr]
   exact ⟨rfl, hP2, hO2, hF2⟩
end Go.Proofs.Ytdhocmakbapfpaa.M
end
section
namespace Go.Proofs.Ytdhocmakbapfpaa.M
open Go.RowKit Go.Proofs.YtdhocmakbapfpaaW.PrintWords Go.Proofs.YtdhocmakbapfpaaW.PrintMore Go.Proofs.YtdhocmakbapfpaaW.PrintLast
attribute [local go_sem] max2_int min2_int max_two min_two
theorem run_neq_iface_nil {ti : TypeId} {ms : Array (String × TypeId)} (tp : TypeId) (v : Value) (w : World) (hi : Try.prog.underlying ti = some (.interface ms)) :
 (binOp .neq ti (.iface tp v) .nilIface).run Try.prog w = .ok (.bool true) w := by
 have h : ∀ d : Nat, (Op.equalIn (d + 1) ti (.iface tp v) .nilIface).run Try.prog w = .ok false w := fun d => by simp [Op.equalIn, run_underlying hi]
 simp only [binOp]
 simp [Op.equal, Op.maxDepth, h 9999]
set_option maxHeartbeats 4000000 in
set_option maxRecDepth 100000 in
theorem catch_idle (a e : Addr) (w : World) :
 CallsD Try.prog 62 #[.pointer (some a), .pointer (some e)] .returning w fun x u' w' => x = .returned (.tuple #[]) ∧ u' = .returning ∧ w' = w := by
 refine callsD_of_wpS Try.func62 rfl fun c₀ cs hu => ?_
 apply wpS_seq
 apply wpS_region
 simp [wpOpsS, go_sem, recoverD, hu, Try.ntmps62, Exit.thenS]
 apply wpS_seq
 apply wpS_region
 simp [wpOpsS, go_sem, Exit.thenS]
 refine wpS_cond (t := false) (by simp [Act.eval, Array.replicate]) ?_
 simp only [Bool.false_eq_true, if_false]
 refine wpS_of_wp (wp_skip ?_)
 cases c₀
 simp_all [bodyPostS, results, Try.results62]
set_option maxHeartbeats 4000000 in
set_option maxRecDepth 100000 in
theorem catch_stop (a e : Nat) (hae : a ≠ e) (w : World) (p x p0 x0 : Int) (older : List PanicEntry) (ha : w.heap[a]? = some (.cells #[.int .i64 p0] 3 (0, 0))) (he : w.heap[e]? = some (.cells #[.int .i64 x0] 32 (0, 0))) :
 CallsD Try.prog 62 #[.pointer (some ⟨a, 0, none⟩), .pointer (some ⟨e, 0, none⟩)] (.panicking ({ v := .iface 94 (.agg #[.int .i64 p, .int .i64 x]), recovered := false } :: older)) w fun r u' w' =>
  r = .returned (.tuple #[]) ∧ u' = .panicking ({ v := .iface 94 (.agg #[.int .i64 p, .int .i64 x]), recovered := true } :: older) ∧ Fr (fun q => q = a ∨ q = e) w w' ∧ w'.heap[a]? = some (.cells #[.int .i64 p] 3 (0, 0)) ∧ w'.heap[e]? = some (.cells #[.int .i64 x] 32 (0, 0)) := by
 have hta : ∀ (v : Value) (w : World), (Instr.typeAssert (.iface 94 v) 20 94 true).run Try.prog w = .ok (.tuple #[v, .bool true]) w := fun v w => by kernel_rfl
 have hq := run_neq_iface_nil 94 (.agg #[.int .i64 p, .int .i64 x]) w (ti := 20) (by rfl)
 refine callsD_of_wpS Try.func62 rfl fun c₀ cs hu => ?_
 rw [show (#[.pointer (some ⟨a, 0, none⟩), .pointer (some ⟨e, 0, none⟩)] ++ Array.replicate (Try.f62.ntmps - (#[.pointer (some ⟨a, 0, none⟩), .pointer (some ⟨e, 0, none⟩)] : Array Value).size) undef : Array Value) = #[.pointer (some ⟨a, 0, none⟩), .pointer (some ⟨e, 0, none⟩), undef, undef, undef, undef, undef, undef, undef, undef, undef, undef, undef, undef, undef, undef, undef, undef, undef, undef] from rfl]
 apply wpS_seq
 apply wpS_region
 simp [wpOpsS, go_sem, recoverD, hu, Try.ntmps62, Exit.thenS]
 apply wpS_seq
 apply wpS_region
 simp [wpOpsS, go_sem, Exit.thenS, hq]
 refine wpS_cond (t := true) (by simp [Act.eval, Array.replicate]) ?_
 simp only [if_true]
 refine wpS_of_wp ?_
 generalize hQ : (fun (e : Exit) (a' : Act) (w' : World) => _) = Q
 go_wp2
 refine wp_world (fun w' => Fr (fun _ => False) w w' ∧ w'.cell? ⟨w.heap.size, 0, none⟩ = some (.int .i64 p) ∧ w'.cell? ⟨w.heap.size, 1, none⟩ = some (.int .i64 x)) ⟨by repeat (first | exact Fr.refl _ _ | refine Fr.alloc ?_ _ | refine Fr.set ?_ _ (by right; simp) _), by simp [go_sem], by simp [go_sem]⟩ ?_
 rintro w1 ⟨hF, h0, h1⟩
 have ha1 := hF.blk ha id
 have he1 := hF.blk he id
 have a0 : w1.cell? ⟨a, 0, none⟩ = some (.int .i64 p0) := (blk_cell ha1 0).trans rfl
 have e0 : w1.cell? ⟨e, 0, none⟩ = some (.int .i64 x0) := (blk_cell he1 0).trans rfl
 have fa := blk_frozen ha1 0
 have fe := blk_frozen he1 0
 have hea : e ≠ a := Ne.symm hae
 have hlt : a < w.heap.size := blk_lt ha
 have hlt2 : e < w.heap.size := blk_lt he
 have n1 : w.heap.size ≠ a := by omega
 have n2 : w.heap.size ≠ e := by omega
 go_region
 subst hQ
 refine ⟨rfl, _, rfl, .tuple #[], by simp [results, Try.results62], rfl, rfl, ?_⟩
 exact ⟨(((hF.mono (fun _ q => q.elim)).set ⟨a, 0, none⟩ (Or.inl (Or.inl rfl)) _).set ⟨e, 0, none⟩ (Or.inl (Or.inr rfl)) _).drew, blk_drew (blk_far (p := ⟨e, 0, none⟩) ((blk_set ha1 0 _).trans rfl) hae), blk_drew ((blk_set (blk_far (p := ⟨a, 0, none⟩) he1 hea) 0 _).trans rfl)⟩
end Go.Proofs.Ytdhocmakbapfpaa.M
end
section
namespace Go.Proofs.Ytdhocmakbapfpaa.M
open Go.RowKit Go.Proofs.YtdhocmakbapfpaaW.PrintWords Go.Proofs.YtdhocmakbapfpaaW.PrintMore Go.Proofs.YtdhocmakbapfpaaW.PrintLast
attribute [local go_sem] max2_int min2_int max_two min_two
theorem allGo_ok (s : ByteArray) : ∀ (f p : Nat) (acc : List Tok), p ≤ s.size → acc.length ≤ p → (∀ t ∈ acc, 0 ≤ t.lo ∧ t.lo ≤ t.hi ∧ t.hi ≤ s.size) →
 (allGo s f p acc).1.length ≤ s.size ∧ ∀ t ∈ (allGo s f p acc).1, 0 ≤ t.lo ∧ t.lo ≤ t.hi ∧ t.hi ≤ s.size
 | 0, p, acc, h1, h2, h3 => by simp [allGo]
 | f + 1, p, acc, h1, h2, h3 => by
   unfold allGo
   split
   · exact ⟨Nat.le_trans h2 h1, h3⟩
   split
   · exact allGo_ok s f (p + 1) acc (by omega) (by omega) h3
   split
   · rename_i h4
     obtain ⟨o1, o2, o3⟩ := oneT_ok s p h4
     refine allGo_ok s f _ _ (by omega) (by simp; omega) ?_
     intro t ht
     rcases List.mem_append.1 ht with ht | ht
     · exact h3 t ht
     · rw [List.mem_singleton.1 ht]; exact ⟨by omega, by omega, o3⟩
   · simp
theorem allT_ok (s : ByteArray) : TokOk s (allT s).1 := by
 unfold allT
 split
 · exact ⟨by simp, by simp⟩
 · obtain ⟨h1, h2⟩ := allGo_ok s (s.size + 1) 0 [] (by omega) (by simp) (by simp)
   exact ⟨by omega, h2⟩
def runP {α : Type} (s : ByteArray) (one : List Tok → Nat → PR α) : Except (Int × Int) α :=
 if (allT s).2.2 != 0 then .error ((allT s).2.1, (allT s).2.2) else match one (allT s).1 0 with
  | .error p => .error p
  | .ok (a, n) => if n < (allT s).1.length then .error (posOf (allT s).1 s n, 6) else .ok a
def RunPost {α : Type} (b : Nat) (I : World → α → World → Prop) (w : World) (r : Except (Int × Int) α) (e : Ending) (w' : World) : Prop := match r with
 | .error (p, x) => e = .returned (.tuple #[.int .i64 p, .int .i64 x]) ∧ Fr (fun q => q = b) w w'
 | .ok a => e = .returned (.tuple #[.int .i64 0, .int .i64 0]) ∧ (∃ w1, w.heap.size ≤ w1.heap.size ∧ I w1 a w') ∧ Fr (fun q => q = b) w w'
theorem tokC_of_R {w : World} {base : Nat} {v : Value} {T : List Tok} (h : Kd.R kTok 100 w base (fun _ => True) v T) : ∃ A c, v = .slice A T.length c ∧ T.length ≤ c ∧ TokC w A T := by
 obtain ⟨A, c, rfl, hc, hC⟩ := Kd.R_reads h
 refine ⟨A, c, rfl, hc, hC, ?_⟩
 intro a ha hne
 obtain ⟨g, cap, he, _, _, cells, hg⟩ := Kd.R_form h (by cases T with | nil => exact absurd rfl hne | cons x xs => simp)
 subst ha
 injection he with h1
 injection h1 with h1
 rw [h1]
 exact ⟨cells, hg⟩
theorem wp_world_calls {P : Program} {f : FuncId} {args : Array Value} {R : Ending → World → Prop} {w : World} (F : World → Prop) (hF : F w) (h : ∀ w', F w' → Calls P f args w' R) : Calls P f args w R := h w hF
set_option maxRecDepth 100000 in
theorem run_results {tmps : Array Value} {w : World} {a e : Nat} {p x : Int} (h4 : tmps.getD 4 undef = .pointer (some ⟨a, 0, none⟩)) (h5 : tmps.getD 5 undef = .pointer (some ⟨e, 0, none⟩))
 (ha : w.heap[a]? = some (.cells #[.int .i64 p] 3 (0, 0))) (he : w.heap[e]? = some (.cells #[.int .i64 x] 32 (0, 0))) : (results Try.f30 tmps).run Try.prog w = .ok (.tuple #[.int .i64 p, .int .i64 x]) w := by
 have a0 : w.cell? ⟨a, 0, none⟩ = some (.int .i64 p) := (blk_cell ha 0).trans rfl
 have e0 : w.cell? ⟨e, 0, none⟩ = some (.int .i64 x) := (blk_cell he 0).trans rfl
 have h4' : tmps[4]?.getD undef = .pointer (some ⟨a, 0, none⟩) := by simpa using h4
 have h5' : tmps[5]?.getD undef = .pointer (some ⟨e, 0, none⟩) := by simpa using h5
 simp [results, Try.results30, go_sem, h4', h5', a0, e0]
set_option maxHeartbeats 4000000 in
set_option maxRecDepth 100000 in
theorem run_calls {α : Type} {s : ByteArray} {w : World} {b : Nat} {ob : Obj} (hs : s.size ≤ maxLen) (K : FuncId) (caps : Array Value) (one : List Tok → Nat → PR α) (I : World → α → World → Prop)
 (hE : ∀ (args : Array Value) (w : World), (callFunc K args).run Try.prog w = .ok (.enter K args) w) (hb : w.heap[b]? = some ob) (hnt : ∀ cells, ob ≠ .cells cells 100 (0, 0))
 (hK : ∀ T w0 w1 g, TokOk s T → g ≠ b → PAt w0 T s w1 g 0 → Bel w0 w1 → Free w0 b → w1.heap[b]? = some ob → Calls Try.prog K (#[.pointer (some ⟨g, 0, none⟩)] ++ caps) w1 (OPost w0 T s g (atomF g b) w1 (I w1) (one T 0)))
 (hI : ∀ w1 a w2 w3 (S : Nat → Prop), I w1 a w2 → Fr S w2 w3 → ¬ S b → (∀ q, w1.heap.size ≤ q → ¬ S q) → I w1 a w3) :
 Calls Try.prog 30 #[.string s, .func (.func K) #[] caps] w (RunPost b I w (runP s one)) := by
 have hT := allT_ok s
 have hmf := @hmf
 have hK := Aside0.mk hK
 have hI := Aside0.mk hI
 have hnt := Aside0.mk hnt
 have hrun := Aside0.mk (show runP s one = _ from rfl)
 obtain ⟨r, hr⟩ : ∃ r, r = allT s := ⟨_, rfl⟩
 obtain ⟨T, p, x⟩ := r
 rw [← hr] at hT
 have hE1 := Aside0.mk (show runP s one = if x != 0 then .error (p, x) else match one T 0 with
  | .error p => .error p
  | .ok (a, n) => if n < T.length then .error (posOf T s n, 6) else .ok a by unfold runP; rw [← hr])
 cases hx : (x != 0)
 · have hx0 : x = 0 := by simpa using hx
   subst hx0
   have hE2 := Aside0.mk (show runP s one = match one T 0 with
    | .error p => .error p
    | .ok (a, n) => if n < T.length then .error (posOf T s n, 6) else .ok a by rw [hE1.out]; rfl)
   go_enter_defers Try.func30, Try.ntmps30
   go_wp2_with fail
   refine (all_calls s _ hs).mono ?_
   rintro e w2 ⟨⟨v, rfl, hR⟩, hB⟩
   rw [← hr] at hR ⊢
   have hF2 : Fr (fun _ => False) w w2 := (((Fr.refl (fun _ => False) w).alloc _).alloc _).trans (Fr.of_below hB)
   have hpa := blk_below (blk_alloc (heap_alloc_new w (.cells #[.int .i64 0] 3)) (.cells #[.int .i64 0] 32)) hB
   have hpe : w2.heap[w.heap.size + 1]? = some (.cells #[.int .i64 0] 32 (0, 0)) := by
    have h := heap_alloc_new (w.alloc (.cells #[.int .i64 0] 3)) (.cells #[.int .i64 0] 32)
    rw [show (w.alloc (.cells #[.int .i64 0] 3)).heap.size = w.heap.size + 1 by simp] at h
    exact blk_below h hB
   have a0 : w2.cell? ⟨w.heap.size, 0, none⟩ = some (.int .i64 0) := (blk_cell hpa 0).trans rfl
   have e0 : w2.cell? ⟨w.heap.size + 1, 0, none⟩ = some (.int .i64 0) := (blk_cell hpe 0).trans rfl
   have fa := blk_frozen hpa 0
   have fe := blk_frozen hpe 0
   obtain ⟨A, c, rfl, hc, hC⟩ := tokC_of_R hR
   have hz2 := blk_lt hpe
   have hbw := blk_lt hb
   have hb2 := Aside0.mk (hF2.blk hb id)
   have hC := Aside0.mk hC
   clear hR hB
   dsimp only
   go_wp2_with fail
   have n1 : w.heap.size ≠ w.heap.size + 1 := by omega
   have n2 : w.heap.size + 1 ≠ w.heap.size := by omega
   have hset : Fr (fun q => q = w.heap.size ∨ q = w.heap.size + 1) w2 (((w2.setCell ⟨w.heap.size, 0, none⟩ (.int .i64 p)).setCell ⟨w.heap.size + 1, 0, none⟩ (.int .i64 0)).alloc (.cells #[.string s, .slice A T.length c, .int .i64 0] 69)) :=
    (((Fr.refl _ w2).set ⟨w.heap.size, 0, none⟩ (Or.inl (Or.inl rfl)) _).set ⟨w.heap.size + 1, 0, none⟩ (Or.inl (Or.inr rfl)) _).alloc _
   have hP3 : PAt w2 T s (((w2.setCell ⟨w.heap.size, 0, none⟩ (.int .i64 p)).setCell ⟨w.heap.size + 1, 0, none⟩ (.int .i64 0)).alloc (.cells #[.string s, .slice A T.length c, .int .i64 0] 69)) w2.heap.size 0 := by
    have h := heap_alloc_new ((w2.setCell ⟨w.heap.size, 0, none⟩ (.int .i64 p)).setCell ⟨w.heap.size + 1, 0, none⟩ (.int .i64 0)) (.cells #[.string s, .slice A T.length c, .int .i64 0] 69)
    rw [show ((w2.setCell ⟨w.heap.size, 0, none⟩ (.int .i64 p)).setCell ⟨w.heap.size + 1, 0, none⟩ (.int .i64 0)).heap.size = w2.heap.size by simp] at h
    exact ⟨A, c, h, Nat.le_refl _, hc, hC.out, Nat.zero_le _⟩
   have hpa3 := blk_alloc (blk_far (p := ⟨w.heap.size + 1, 0, none⟩) (u := .int .i64 0) ((blk_set hpa 0 (.int .i64 p)).trans rfl : (w2.setCell ⟨w.heap.size, 0, none⟩ (.int .i64 p)).heap[w.heap.size]? = some (.cells #[.int .i64 p] 3 (0, 0))) n1) (.cells #[.string s, .slice A T.length c, .int .i64 0] 69)
   have hpe3 := blk_alloc ((blk_set (blk_far (p := ⟨w.heap.size, 0, none⟩) (u := .int .i64 p) hpe n2) 0 (.int .i64 0)).trans rfl : ((w2.setCell ⟨w.heap.size, 0, none⟩ (.int .i64 p)).setCell ⟨w.heap.size + 1, 0, none⟩ (.int .i64 0)).heap[w.heap.size + 1]? = some (.cells #[.int .i64 0] 32 (0, 0))) (.cells #[.string s, .slice A T.length c, .int .i64 0] 69)
   have hB3 : Bel w2 (((w2.setCell ⟨w.heap.size, 0, none⟩ (.int .i64 p)).setCell ⟨w.heap.size + 1, 0, none⟩ (.int .i64 0)).alloc (.cells #[.string s, .slice A T.length c, .int .i64 0] 69)) :=
    (Bel.refl w2).fr hset (fun q hq => Or.inr (by rcases hq with rfl | rfl; exact (fun ⟨cs, q⟩ => by rw [hpa] at q; simp at q); exact (fun ⟨cs, q⟩ => by rw [hpe] at q; simp at q)))
   have hb3 := hset.blk hb2.out (fun q => by rcases q with q | q <;> omega)
   have hF3 : Fr (fun q => q = b) w _ := (hF2.mono (fun _ q => q.elim)).step hset (fun q hq => Or.inr (by rcases hq with rfl | rfl <;> omega))
   have hg : w2.heap.size ≠ b := by omega
   have hz3 := hset.size
   refine wp_world_calls (fun w' => PAt w2 T s w' w2.heap.size 0 ∧ Bel w2 w' ∧ w'.heap[b]? = some ob ∧ Fr (fun q => q = b) w w' ∧ w'.heap[w.heap.size]? = some (.cells #[.int .i64 p] 3 (0, 0)) ∧ w'.heap[w.heap.size + 1]? = some (.cells #[.int .i64 0] 32 (0, 0)) ∧ w2.heap.size ≤ w'.heap.size) ⟨hP3, hB3, hb3, hF3, hpa3, hpe3, hz3⟩ ?_
   clear hset hP3 hpa3 hpe3 hB3 hb3 hF3 hz3 a0 e0 fa fe
   rintro w4 ⟨hP4, hB4, hb4, hF4, hpa4, hpe4, hz4⟩
   refine (hK.out T w2 w4 w2.heap.size hT hg hP4 hB4 (Or.inr (fun ⟨cs, q⟩ => by rw [hb2.out] at q; exact hnt.out cs (by simpa using q))) hb4).mono ?_
   intro e w5 hp
   obtain ⟨r, hr'⟩ : ∃ r, r = one T 0 := ⟨_, rfl⟩
   rw [← hr'] at hp
   cases r with
   | error q =>
     obtain ⟨p', x'⟩ := q
     obtain ⟨rfl, hF5⟩ := hp
     have hE3 := Aside0.mk (show runP s one = .error (p', x') by rw [hE2.out, ← hr'])
     have hpa5 := hF5.blk hpa4 (fun q => by rcases q with q | q <;> omega)
     have hpe5 := hF5.blk hpe4 (fun q => by rcases q with q | q <;> omega)
     have hF6 := hF4.step hF5 (fun q hq => by rcases hq with rfl | rfl; exact Or.inr (by omega); exact Or.inl rfl)
     clear hr'
     go_wp2
     refine leaves_cons (f := 62) (args := #[.pointer (some ⟨w.heap.size, 0, none⟩), .pointer (some ⟨w.heap.size + 1, 0, none⟩)]) (by simp) (by simp [go_sem]) ?_
     refine (catch_stop w.heap.size (w.heap.size + 1) n1 w5 p' x' p 0 [] hpa5 hpe5).mono ?_
     rintro e u' w6 ⟨rfl, rfl, hF7, hA, hEE⟩
     rw [hE3.out]
     exact ⟨_, run_results rfl rfl hA hEE, rfl, hF6.step hF7 (fun q hq => Or.inr (by rcases hq with rfl | rfl <;> omega))⟩
   | ok r =>
     obtain ⟨a, n⟩ := r
     obtain ⟨rfl, hP5, hI5, hF5⟩ := hp
     have hE3 := Aside0.mk (show runP s one = if n < T.length then .error (posOf T s n, 6) else .ok a by rw [hE2.out, ← hr'])
     have hpa5 := hF5.blk hpa4 (fun q => by rcases q with q | q <;> omega)
     have hpe5 := hF5.blk hpe4 (fun q => by rcases q with q | q <;> omega)
     have hF6 := hF4.step hF5 (fun q hq => by rcases hq with rfl | rfl; exact Or.inr (by omega); exact Or.inl rfl)
     have hB5 := hB4.fr hF5 (fun q hq => by rcases hq with rfl | rfl; exact Or.inl (Nat.le_refl _); exact Or.inr (fun ⟨cs, q⟩ => by rw [hb2.out] at q; exact hnt.out cs (by simpa using q)))
     have hz5 := hF5.size
     obtain ⟨A5, c5, p0, p1, p2, q2, hm5, hc5, _⟩ := hP5.cells
     have hmx := hP5.max
     clear hr' hP4 hB4 hb4 hF4 hpa4 hpe4 hF5
     by_cases hl : n < T.length
     · have hd : decide ((n : Int) < (T.length : Int)) = true := by simp; omega
       have hE4 := Aside0.mk (show runP s one = .error (posOf T s n, 6) by rw [hE3.out, if_pos hl])
       go_wp2_with fail
       go_region
       go_wp2_with fail
       refine (fail_calls 6 (w := w5.drew) hP5.drew hB5.drew).mono ?_; rintro e w7 ⟨rfl, hd7⟩
       have hpa7 := blk_drawn (w := w5.drew) hpa5 hd7
       have hpe7 := blk_drawn (w := w5.drew) hpe5 hd7
       have hF7 := hF6.drew.drawn hd7
       go_wp2
       refine leaves_cons (f := 62) (args := #[.pointer (some ⟨w.heap.size, 0, none⟩), .pointer (some ⟨w.heap.size + 1, 0, none⟩)]) (by simp) (by simp [go_sem]) ?_
       refine (catch_stop w.heap.size (w.heap.size + 1) n1 w7 _ 6 p 0 [] hpa7 hpe7).mono ?_
       rintro e u' w8 ⟨rfl, rfl, hF8, hA, hEE⟩
       rw [hE4.out]
       exact ⟨_, run_results rfl rfl hA hEE, rfl, hF7.step hF8 (fun q hq => Or.inr (by rcases hq with rfl | rfl <;> omega))⟩
     · have hd : decide ((n : Int) < (T.length : Int)) = false := by simp; omega
       have hE4 := Aside0.mk (show runP s one = .ok a by rw [hE3.out, if_neg hl])
       have a0 : w5.cell? ⟨w.heap.size, 0, none⟩ = some (.int .i64 p) := (blk_cell hpa5 0).trans rfl
       have e0 : w5.cell? ⟨w.heap.size + 1, 0, none⟩ = some (.int .i64 0) := (blk_cell hpe5 0).trans rfl
       have fa := blk_frozen hpa5 0
       have fe := blk_frozen hpe5 0
       go_wp2_with fail
       go_region
       go_wp2
       refine leaves_cons (f := 62) (args := #[.pointer (some ⟨w.heap.size, 0, none⟩), .pointer (some ⟨w.heap.size + 1, 0, none⟩)]) (by simp) (by simp [go_sem]) ?_
       refine (catch_idle ⟨w.heap.size, 0, none⟩ ⟨w.heap.size + 1, 0, none⟩ _).mono ?_
       rintro e u' w8 ⟨rfl, rfl, rfl⟩
       rw [hE4.out]
       have hfin : Fr (fun q => q = w.heap.size ∨ q = w.heap.size + 1) w5 (((w5.setCell ⟨w.heap.size, 0, none⟩ (.int .i64 0)).setCell ⟨w.heap.size + 1, 0, none⟩ (.int .i64 0)).drew) :=
        (((Fr.refl _ w5).set ⟨w.heap.size, 0, none⟩ (Or.inl (Or.inl rfl)) _).set ⟨w.heap.size + 1, 0, none⟩ (Or.inl (Or.inr rfl)) _).drew
       exact ⟨_, run_results rfl rfl (blk_drew (blk_far (p := ⟨w.heap.size + 1, 0, none⟩) ((blk_set hpa5 0 _).trans rfl) n1)) (blk_drew ((blk_set (blk_far (p := ⟨w.heap.size, 0, none⟩) hpe5 n2) 0 _).trans rfl)), rfl,
        ⟨w4, by omega, hI.out w4 a w5 _ _ hI5 hfin (fun q => by rcases q with q | q <;> omega) (fun q hq hh => by rcases hh with hh | hh <;> omega)⟩, hF6.step hfin (fun q hq => Or.inr (by rcases hq with rfl | rfl <;> omega))⟩
 · have hE2 := Aside0.mk (show runP s one = .error (p, x) by rw [hE1.out, hx]; rfl)
   go_enter_defers Try.func30, Try.ntmps30
   go_wp2_with fail
   refine (all_calls s _ hs).mono ?_
   rintro e w2 ⟨⟨v, rfl, hR⟩, hB⟩
   rw [← hr] at hR ⊢
   have hF2 : Fr (fun _ => False) w w2 := (((Fr.refl (fun _ => False) w).alloc _).alloc _).trans (Fr.of_below hB)
   have hpa := blk_below (blk_alloc (heap_alloc_new w (.cells #[.int .i64 0] 3)) (.cells #[.int .i64 0] 32)) hB
   have hpe : w2.heap[w.heap.size + 1]? = some (.cells #[.int .i64 0] 32 (0, 0)) := by
    have h := heap_alloc_new (w.alloc (.cells #[.int .i64 0] 3)) (.cells #[.int .i64 0] 32)
    rw [show (w.alloc (.cells #[.int .i64 0] 3)).heap.size = w.heap.size + 1 by simp] at h
    exact blk_below h hB
   have a0 : w2.cell? ⟨w.heap.size, 0, none⟩ = some (.int .i64 0) := (blk_cell hpa 0).trans rfl
   have e0 : w2.cell? ⟨w.heap.size + 1, 0, none⟩ = some (.int .i64 0) := (blk_cell hpe 0).trans rfl
   have fa := blk_frozen hpa 0
   have fe := blk_frozen hpe 0
   clear hR hB
   dsimp only
   go_wp2_with fail
   refine wp_world (fun w' => Fr (fun _ => False) w w' ∧ w'.heap[w.heap.size]? = some (.cells #[.int .i64 p] 3 (0, 0)) ∧ w'.heap[w.heap.size + 1]? = some (.cells #[.int .i64 x] 32 (0, 0)))
    ⟨(hF2.set ⟨w.heap.size, 0, none⟩ (Or.inr (Nat.le_refl _)) _).set ⟨w.heap.size + 1, 0, none⟩ (Or.inr (by simp)) _, blk_far (p := ⟨w.heap.size + 1, 0, none⟩) ((blk_set hpa 0 _).trans rfl) (by simp), (blk_set (blk_far (p := ⟨w.heap.size, 0, none⟩) hpe (by simp)) 0 _).trans rfl⟩ ?_
   clear a0 e0 fa fe
   rintro w3 ⟨hF3, hpa3, hpe3⟩
   have a0 : w3.cell? ⟨w.heap.size, 0, none⟩ = some (.int .i64 p) := (blk_cell hpa3 0).trans rfl
   have e0 : w3.cell? ⟨w.heap.size + 1, 0, none⟩ = some (.int .i64 x) := (blk_cell hpe3 0).trans rfl
   have fa := blk_frozen hpa3 0
   have fe := blk_frozen hpe3 0
   have n1 : w.heap.size ≠ w.heap.size + 1 := by omega
   have n2 : w.heap.size + 1 ≠ w.heap.size := by omega
   go_region
   go_wp2
   rw [hE2.out]
   exact ⟨_, run_results rfl rfl (blk_drew (blk_far (p := ⟨w.heap.size + 1, 0, none⟩) ((blk_set hpa3 0 _).trans rfl) n1)) (blk_drew ((blk_set (blk_far (p := ⟨w.heap.size, 0, none⟩) hpe3 n2) 0 _).trans rfl)),
    rfl, (((hF3.mono (fun _ q => q.elim)).set ⟨w.heap.size, 0, none⟩ (Or.inr (Nat.le_refl _)) _).set ⟨w.heap.size + 1, 0, none⟩ (Or.inr (by simp)) _).drew⟩
end Go.Proofs.Ytdhocmakbapfpaa.M
end
section
namespace Go.Proofs.Ytdhocmakbapfpaa.M
open Go.RowKit Go.Proofs.YtdhocmakbapfpaaW.PrintWords Go.Proofs.YtdhocmakbapfpaaW.PrintMore Go.Proofs.YtdhocmakbapfpaaW.PrintLast
attribute [local go_sem] max2_int min2_int max_two min_two
def ErrOk {α : Type} (r : Except (Int × Int) α) : Prop := ∀ q, r = .error q → q.2 ≠ 0
theorem takeP_err (T : List Tok) (s : ByteArray) (ks : List Int) (n : Nat) : ErrOk (takeP T s ks n) := by
 intro q h
 unfold takeP at h
 split at h
 · cases h
 · cases h; simp
theorem needP_err (T : List Tok) (s : ByteArray) (x : ByteArray) (n : Nat) : ErrOk (needP T s x n) := by
 intro q h
 unfold needP at h
 split at h
 · cases h
 · cases h; simp
theorem termP_err (T : List Tok) (s : ByteArray) (n : Nat) : ErrOk (termP T s n) := by
 intro q h
 unfold termP at h
 split at h
 · rename_i e; cases h; exact takeP_err T s _ n _ e
 · cases h
theorem tailP_err {α : Type} (T : List Tok) (s : ByteArray) (one : Nat → PR α) (h1 : ∀ n, ErrOk (one n)) : ∀ r m, ErrOk (tailP T s one r m)
 | 0, m => by
   intro q h
   unfold tailP at h
   split at h
   · cases h; simp
   · cases h
 | r + 1, m => by
   intro q h
   unfold tailP at h
   split at h
   · split at h
     · rename_i e; cases h; exact h1 _ _ e
     · split at h
       · rename_i e; cases h; exact tailP_err T s one h1 _ _ _ e
       · cases h
   · cases h
theorem addL_err {α : Type} (acc : List α) (r : PR (List α)) (h : ErrOk r) : ErrOk (addL acc r) := by
 intro q hq
 cases r with
 | error p => cases hq; exact h _ rfl
 | ok x => cases hq
theorem listP_err {α : Type} (T : List Tok) (s : ByteArray) (one : Nat → PR α) (most n : Nat) (h1 : ∀ n, ErrOk (one n)) : ErrOk (listP T s one most n) := by
 intro q h
 unfold listP at h
 split at h
 · rename_i e; cases h; exact h1 _ _ e
 · exact addL_err _ _ (tailP_err T s one h1 _ _) _ h
theorem atomP_err (T : List Tok) (s : ByteArray) (n : Nat) : ErrOk (atomP T s n) := by
 intro q h
 unfold atomP at h
 split at h
 · rename_i e; cases h; exact takeP_err T s _ _ _ e
 · split at h
   · split at h
     · rename_i e; cases h; exact listP_err T s _ _ _ (termP_err T s) _ e
     · split at h
       · rename_i e; cases h; exact needP_err T s _ _ _ e
       · cases h
   · cases h
theorem saidP_err (T : List Tok) (s : ByteArray) (n : Nat) : ErrOk (saidP T s n) := by
 intro q h
 unfold saidP at h
 split at h
 · split at h
   · rename_i e; cases h; exact termP_err T s _ _ e
   · split at h
     · rename_i e; cases h; exact needP_err T s _ _ _ e
     · split at h
       · rename_i e; cases h; exact atomP_err T s _ _ e
       · cases h
 · split at h
   · rename_i e; cases h; exact atomP_err T s _ _ e
   · cases h
theorem saidL_err (k : Int) (r : PR (Term × (ByteArray × List Term))) (h : ErrOk r) : ErrOk (saidL k r) := by
 intro q hq
 cases r with
 | error p => cases hq; exact h _ rfl
 | ok x => cases hq
theorem pairP_err (T : List Tok) (s : ByteArray) (k : Int) (a : Term) (m : Nat) : ErrOk (pairP T s k a m) := by
 intro q h
 unfold pairP at h
 split at h
 · rename_i e; cases h; exact termP_err T s _ _ e
 · cases h
theorem literalP_err (T : List Tok) (s : ByteArray) (n : Nat) : ErrOk (literalP T s n) := by
 intro q h
 unfold literalP at h
 split at h
 · exact saidL_err _ _ (saidP_err T s _) _ h
 · split at h
   · split at h
     · rename_i e; cases h; exact termP_err T s _ _ e
     · split at h
       · exact pairP_err T s _ _ _ _ h
       · split at h
         · exact pairP_err T s _ _ _ _ h
         · cases h; simp
   · exact saidL_err _ _ (saidP_err T s _) _ h
theorem clauseP_err (T : List Tok) (s : ByteArray) (n : Nat) : ErrOk (clauseP T s n) := by
 intro q h
 unfold clauseP at h
 split at h
 · rename_i e; cases h; exact atomP_err T s _ _ e
 · split at h
   · rename_i e
     cases h
     unfold bodyP at e
     split at e
     · exact listP_err T s _ _ _ (literalP_err T s) _ e
     · cases e
   · split at h
     · rename_i e; cases h; exact needP_err T s _ _ _ e
     · cases h
theorem runP_err {α : Type} (s : ByteArray) (one : List Tok → Nat → PR α) (h1 : ∀ T n, ErrOk (one T n)) : ErrOk (runP s one) := by
 intro q h
 unfold runP at h
 split at h
 · rename_i e; cases h; simpa using e
 · split at h
   · rename_i e; cases h; exact h1 _ _ _ e
   · split at h
     · cases h; simp
     · cases h
def parseP (s : ByteArray) : Except (Int × Int) Clause := runP s (fun T n => clauseP T s n)
abbrev clauseV (c : Clause) (av bv : Value) : Value := .agg #[.int .u8 c.head.kind, .string c.head.who.var, .string c.head.who.val.sym, .int .i64 c.head.who.val.num, .string c.head.pred, av, bv]
abbrev zeroC : Obj := .cells #[.int .u8 0, .string ⟨#[]⟩, .string ⟨#[]⟩, .int .i64 0, .string ⟨#[]⟩, .slice none 0 0, .slice none 0 0] 31
abbrev oneC : Obj := .cells #[.int .u8 1, .string ⟨#[]⟩, .string ⟨#[]⟩, .int .i64 0, .string ⟨#[]⟩, .slice none 0 0, .slice none 0 0] 31
def ParsePost (w : World) (r : Except (Int × Int) Clause) (e : Ending) (w' : World) : Prop := match r with
 | .error (p, x) => e = .returned (.tuple #[clauseV Clause.z (.slice none 0 0) (.slice none 0 0), .int .i64 p, .int .i64 x]) ∧ Below w.heap.size w w'
 | .ok c => (∃ av bv, e = .returned (.tuple #[clauseV c av bv, .int .i64 0, .int .i64 0]) ∧ Kd.R kTerm 25 w' w.heap.size (fun q => w.heap.size ≤ q) av c.head.args ∧ Kd.R kLit 28 w' w.heap.size (fun q => w.heap.size ≤ q) bv c.body) ∧ Below w.heap.size w w'
theorem results_ctt' {fn : Func} {p u v : Tmp} {ty : TypeId} (h : fn.results = #[.cell p ty, .tmp u, .tmp v]) (tmps : Array Value) (w : World) (g : Nat) (t : TypeId) (cs : Array Value) (fr : Nat × Nat) {fs : Array Field}
 (hp : tmps.getD p undef = .pointer (some ⟨g, 0, none⟩)) (hg : w.heap[g]? = some (.cells cs t fr))
 (hu : Try.prog.underlying ty = some (.struct fs)) (hi : (Try.prog.info? ty).map (·.size) = some cs.size) :
 (results fn tmps).run Try.prog w = .ok (.tuple #[.agg cs, tmps.getD u undef, tmps.getD v undef]) w := by
 have hp' : tmps[p]?.getD undef = .pointer (some ⟨g, 0, none⟩) := by simpa using hp
 simp [results, h, hp', asAddr, run_loadVar_row w g t ty cs fr _ hg hu rfl hi]
def clSet (w : World) (b : Nat) (c : Clause) (av bv : Value) : World := ((((((w.setCell ⟨b, 0, none⟩ (.int .u8 c.head.kind)).setCell ⟨b, 1, none⟩ (.string c.head.who.var)).setCell ⟨b, 2, none⟩ (.string c.head.who.val.sym)).setCell ⟨b, 3, none⟩ (.int .i64 c.head.who.val.num)).setCell ⟨b, 4, none⟩ (.string c.head.pred)).setCell ⟨b, 5, none⟩ av).setCell ⟨b, 6, none⟩ bv
theorem clSet_blk {w : World} {b : Nat} {c : Clause} {av bv : Value} (h : w.heap[b]? = some zeroC) :
 (clSet w b c av bv).heap[b]? = some (.cells #[.int .u8 c.head.kind, .string c.head.who.var, .string c.head.who.val.sym, .int .i64 c.head.who.val.num, .string c.head.pred, av, bv] 31 (0, 0)) := by
 have h2 := blk_set (blk_set (blk_set (blk_set (blk_set (blk_set (blk_set h 0 (.int .u8 c.head.kind)) 1 (.string c.head.who.var)) 2 (.string c.head.who.val.sym)) 3 (.int .i64 c.head.who.val.num)) 4 (.string c.head.pred)) 5 av) 6 bv
 exact h2.trans (congrArg (fun c => some (Obj.cells c 31 (0, 0))) (by simp))
theorem clSet_fr {w w' : World} {S : Nat → Prop} {b : Nat} {c : Clause} {av bv : Value} (h : Fr S w w') (hx : S b ∨ w.heap.size ≤ b) : Fr S w (clSet w' b c av bv) :=
 ((((((h.set ⟨b, 0, none⟩ hx _).set ⟨b, 1, none⟩ hx _).set ⟨b, 2, none⟩ hx _).set ⟨b, 3, none⟩ hx _).set ⟨b, 4, none⟩ hx _).set ⟨b, 5, none⟩ hx _).set ⟨b, 6, none⟩ hx _
set_option maxRecDepth 100000 in
theorem parse_end {w5 : World} {R : Ending → World → Prop} {c : Clause} {av bv : Value} {b : Nat} {p x : Int} {a : Act} (hd : a.defers = []) (h2 : a.tmps.getD 2 undef = .pointer (some ⟨b, 0, none⟩)) (h3 : a.tmps.getD 3 undef = .int .i64 p) (h4 : a.tmps.getD 4 undef = .int .i64 x)
 (hL : w5.heap[b]? = some zeroC) (hR : R (.returned (.tuple #[clauseV c av bv, .int .i64 p, .int .i64 x])) (clSet w5 b c av bv)) :
 bodyPost Try.prog Try.f11 R .ret a (clSet w5 b c av bv) := by
 refine bodyPost_ret (results_ctt' (fn := Try.f11) (p := 2) (u := 3) (v := 4) rfl _ _ b 31 _ (0, 0) h2 (clSet_blk hL) (by rfl) (by rfl)) hd ?_
 rw [h3, h4]
 exact hR
set_option maxHeartbeats 4000000 in
set_option maxRecDepth 100000 in
theorem parse_calls (s : ByteArray) (w : World) (hs : s.size ≤ maxLen) : Calls Try.prog 11 #[.string s] w (ParsePost w (parseP s)) := by
 have hmf := @hmf
 have hb : ((w.alloc zeroC).alloc oneC).heap[w.heap.size + 1]? = some oneC := by
  have h := heap_alloc_new (w.alloc zeroC) oneC
  rwa [show (w.alloc zeroC).heap.size = w.heap.size + 1 by simp] at h
 have hE31 := Aside0.mk (fun (args : Array Value) (w : World) => enters_ (f := 31) (P := Try.prog) Try.func31 (by kernel_rfl) rfl args w)
 have hrun := run_calls (w := (w.alloc zeroC).alloc oneC) (b := w.heap.size + 1) (ob := oneC) hs 31 #[.pointer (some ⟨w.heap.size + 1, 0, none⟩)] (fun T n => clauseP T s n) (fun w1 c w' => ClauseO (w.heap.size + 1) w1 c w') hE31.out hb (fun cs h => by simp at h)
  (fun T w0 w1 g hT hg hP hB hf hbb => clause1_calls hT hg hP hB hf hbb)
  (fun w1 c w2 w3 S hI hF hS hq => by obtain ⟨av, bv, h1, h2, h3⟩ := hI; exact ⟨av, bv, hF.blk h1 hS, hF.R h2 hq, hF.R h3 hq⟩)
 replace hrun := Aside0.mk hrun
 have hd0 := blk_alloc (heap_alloc_new w zeroC) oneC
 have hF0 : Fr (fun _ => False) w ((w.alloc zeroC).alloc oneC) := ((Fr.refl _ w).alloc _).alloc _
 obtain ⟨r, hr⟩ : ∃ r, r = parseP s := ⟨_, rfl⟩
 rw [← hr]
 go_enter Try.func11, Try.ntmps11
 go_wp2_with fail
 refine hrun.out.mono ?_
 intro e w5 hp
 rw [show runP s (fun T n => clauseP T s n) = r from hr.symm] at hp
 clear hrun
 cases r with
 | error q =>
   obtain ⟨p, x⟩ := q
   obtain ⟨rfl, hF⟩ := hp
   have hD := hF.blk hd0 (fun q => by have : w.heap.size = w.heap.size + 1 := q; omega)
   have d0 : w5.cell? ⟨w.heap.size, 0, none⟩ = some (.int .u8 0) := (blk_cell hD 0).trans rfl
   have d1 : w5.cell? ⟨w.heap.size, 1, none⟩ = some (.string ⟨#[]⟩) := (blk_cell hD 1).trans rfl
   have d2 : w5.cell? ⟨w.heap.size, 2, none⟩ = some (.string ⟨#[]⟩) := (blk_cell hD 2).trans rfl
   have d3 : w5.cell? ⟨w.heap.size, 3, none⟩ = some (.int .i64 0) := (blk_cell hD 3).trans rfl
   have d4 : w5.cell? ⟨w.heap.size, 4, none⟩ = some (.string ⟨#[]⟩) := (blk_cell hD 4).trans rfl
   have d5 : w5.cell? ⟨w.heap.size, 5, none⟩ = some (.slice none 0 0) := (blk_cell hD 5).trans rfl
   have d6 : w5.cell? ⟨w.heap.size, 6, none⟩ = some (.slice none 0 0) := (blk_cell hD 6).trans rfl
   have f0 := blk_frozen hD 0
   have f1 := blk_frozen hD 1
   have f2 := blk_frozen hD 2
   have f3 := blk_frozen hD 3
   have f4 := blk_frozen hD 4
   have f5 := blk_frozen hD 5
   have f6 := blk_frozen hD 6
   have hx : (x != 0) = true := by simpa using runP_err s _ (fun T n => clauseP_err T s n) (p, x) (show runP s (fun T n => clauseP T s n) = _ from hr.symm)
   go_wp2
   exact parse_end (w5 := w5) (b := w.heap.size) (p := p) (x := x) (c := Clause.z) (av := .slice none 0 0) (bv := .slice none 0 0) rfl rfl rfl rfl hD
    ⟨rfl, (clSet_fr (S := fun _ => False) (hF0.step hF (fun q hq => Or.inr (by omega))) (Or.inr (Nat.le_refl _))).below (Nat.le_refl _) (fun _ q => q.elim)⟩
 | ok c =>
   obtain ⟨rfl, ⟨w1, hz1, av, bv, hL, hR1, hR2⟩, hF⟩ := hp
   have hD := hF.blk hd0 (fun q => by have : w.heap.size = w.heap.size + 1 := q; omega)
   obtain ⟨A1, c1, rfl⟩ := Kd.R_slice hR1
   obtain ⟨A2, c2, rfl⟩ := Kd.R_slice hR2
   have d0 : w5.cell? ⟨w.heap.size, 0, none⟩ = some (.int .u8 0) := (blk_cell hD 0).trans rfl
   have d1 : w5.cell? ⟨w.heap.size, 1, none⟩ = some (.string ⟨#[]⟩) := (blk_cell hD 1).trans rfl
   have d2 : w5.cell? ⟨w.heap.size, 2, none⟩ = some (.string ⟨#[]⟩) := (blk_cell hD 2).trans rfl
   have d3 : w5.cell? ⟨w.heap.size, 3, none⟩ = some (.int .i64 0) := (blk_cell hD 3).trans rfl
   have d4 : w5.cell? ⟨w.heap.size, 4, none⟩ = some (.string ⟨#[]⟩) := (blk_cell hD 4).trans rfl
   have d5 : w5.cell? ⟨w.heap.size, 5, none⟩ = some (.slice none 0 0) := (blk_cell hD 5).trans rfl
   have d6 : w5.cell? ⟨w.heap.size, 6, none⟩ = some (.slice none 0 0) := (blk_cell hD 6).trans rfl
   have f0 := blk_frozen hD 0
   have f1 := blk_frozen hD 1
   have f2 := blk_frozen hD 2
   have f3 := blk_frozen hD 3
   have f4 := blk_frozen hD 4
   have f5 := blk_frozen hD 5
   have f6 := blk_frozen hD 6
   have e0 : w5.cell? ⟨w.heap.size + 1, 0, none⟩ = some (.int .u8 c.head.kind) := (blk_cell hL 0).trans rfl
   have e1 : w5.cell? ⟨w.heap.size + 1, 1, none⟩ = some (.string c.head.who.var) := (blk_cell hL 1).trans rfl
   have e2 : w5.cell? ⟨w.heap.size + 1, 2, none⟩ = some (.string c.head.who.val.sym) := (blk_cell hL 2).trans rfl
   have e3 : w5.cell? ⟨w.heap.size + 1, 3, none⟩ = some (.int .i64 c.head.who.val.num) := (blk_cell hL 3).trans rfl
   have e4 : w5.cell? ⟨w.heap.size + 1, 4, none⟩ = some (.string c.head.pred) := (blk_cell hL 4).trans rfl
   have e5 : w5.cell? ⟨w.heap.size + 1, 5, none⟩ = some (.slice A1 c.head.args.length c1) := (blk_cell hL 5).trans rfl
   have e6 : w5.cell? ⟨w.heap.size + 1, 6, none⟩ = some (.slice A2 c.body.length c2) := (blk_cell hL 6).trans rfl
   go_wp2
   have hz : w.heap.size + 2 ≤ w1.heap.size := by simpa using hz1
   have hfar : ∀ q, w1.heap.size ≤ q → ¬ (q = w.heap.size) := fun q hq e => by omega
   exact parse_end (w5 := w5) (b := w.heap.size) (p := 0) (x := 0) (c := c) (av := .slice A1 c.head.args.length c1) (bv := .slice A2 c.body.length c2) rfl rfl rfl rfl hD
    ⟨⟨_, _, rfl, Kd.R_mono (Kd.R_lower ((clSet_fr (S := fun q => q = w.heap.size) (Fr.refl _ w5) (Or.inl rfl)).R hR1 hfar) (by omega)) (fun q hq => by omega), Kd.R_mono (Kd.R_lower ((clSet_fr (S := fun q => q = w.heap.size) (Fr.refl _ w5) (Or.inl rfl)).R hR2 hfar) (by omega)) (fun q hq => by omega)⟩,
     (clSet_fr (S := fun _ => False) (hF0.step hF (fun q hq => Or.inr (by omega))) (Or.inr (Nat.le_refl _))).below (Nat.le_refl _) (fun _ q => q.elim)⟩
end Go.Proofs.Ytdhocmakbapfpaa.M
end
section
namespace Go.Proofs.Ytdhocmakbapfpaa.M
open Go.RowKit Go.Proofs.YtdhocmakbapfpaaW.PrintWords Go.Proofs.YtdhocmakbapfpaaW.PrintMore Go.Proofs.YtdhocmakbapfpaaW.PrintLast
attribute [local go_sem] max2_int min2_int max_two min_two
def parseLitP (s : ByteArray) : Except (Int × Int) (Term × (ByteArray × List Term)) := runP s (fun T n => saidP T s n)
def litOf (r : Term × (ByteArray × List Term)) : Lit := ⟨1, r.1, r.2.1, r.2.2⟩
abbrev zeroL : Obj := .cells #[.int .u8 0, .string ⟨#[]⟩, .string ⟨#[]⟩, .int .i64 0, .string ⟨#[]⟩, .slice none 0 0] 28
abbrev oneL : Obj := .cells #[.int .u8 1, .string ⟨#[]⟩, .string ⟨#[]⟩, .int .i64 0, .string ⟨#[]⟩, .slice none 0 0] 28
def ParseLitPost (w : World) (r : Except (Int × Int) (Term × (ByteArray × List Term))) (e : Ending) (w' : World) : Prop := match r with
 | .error (p, x) => e = .returned (.tuple #[litV Lit.z (.slice none 0 0), .int .i64 p, .int .i64 x]) ∧ Below w.heap.size w w'
 | .ok r => (∃ av, e = .returned (.tuple #[litV (litOf r) av, .int .i64 0, .int .i64 0]) ∧ Kd.R kTerm 25 w' w.heap.size (fun q => w.heap.size ≤ q) av r.2.2) ∧ Below w.heap.size w w'
theorem litSet_fr {w w' : World} {S : Nat → Prop} {b : Nat} {l : Lit} {av : Value} (h : Fr S w w') (hx : S b ∨ w.heap.size ≤ b) : Fr S w (litSet w' b l av) :=
 (((((h.set ⟨b, 0, none⟩ hx _).set ⟨b, 1, none⟩ hx _).set ⟨b, 2, none⟩ hx _).set ⟨b, 3, none⟩ hx _).set ⟨b, 4, none⟩ hx _).set ⟨b, 5, none⟩ hx _
set_option maxRecDepth 100000 in
theorem parseLit_end {w5 : World} {R : Ending → World → Prop} {l : Lit} {av : Value} {b : Nat} {p x : Int} {a : Act} (hd : a.defers = []) (h2 : a.tmps.getD 2 undef = .pointer (some ⟨b, 0, none⟩)) (h3 : a.tmps.getD 3 undef = .int .i64 p) (h4 : a.tmps.getD 4 undef = .int .i64 x)
 (hL : w5.heap[b]? = some zeroL) (hR : R (.returned (.tuple #[litV l av, .int .i64 p, .int .i64 x])) (litSet w5 b l av)) :
 bodyPost Try.prog Try.f15 R .ret a (litSet w5 b l av) := by
 refine bodyPost_ret (results_ctt' (fn := Try.f15) (p := 2) (u := 3) (v := 4) rfl _ _ b 28 _ (0, 0) h2 (litSet_blk (k := 0) (who := Term.z) (pred := noStr) (v := .slice none 0 0) hL) (by rfl) (by rfl)) hd ?_
 rw [h3, h4]
 exact hR
set_option maxHeartbeats 4000000 in
set_option maxRecDepth 100000 in
theorem parseLit_calls (s : ByteArray) (w : World) (hs : s.size ≤ maxLen) : Calls Try.prog 15 #[.string s] w (ParseLitPost w (parseLitP s)) := by
 have hmf := @hmf
 have hb : ((w.alloc zeroL).alloc oneL).heap[w.heap.size + 1]? = some oneL := by
  have h := heap_alloc_new (w.alloc zeroL) oneL
  rwa [show (w.alloc zeroL).heap.size = w.heap.size + 1 by simp] at h
 have hE31 := Aside0.mk (fun (args : Array Value) (w : World) => enters_ (f := 45) (P := Try.prog) Try.func45 (by kernel_rfl) rfl args w)
 have hrun := run_calls (w := (w.alloc zeroL).alloc oneL) (b := w.heap.size + 1) (ob := oneL) hs 45 #[.pointer (some ⟨w.heap.size + 1, 0, none⟩)] (fun T n => saidP T s n) (fun w1 r w' => SaidO (w.heap.size + 1) 1 [] 28 w1 r w') hE31.out hb (fun cs h => by simp at h)
  (fun T w0 w1 g hT hg hP hB hf hbb => lit1_calls hT hg hP hB hf hbb)
  (fun w1 r w2 w3 S hI hF hS hq => by obtain ⟨av, h1, h2⟩ := hI; exact ⟨av, hF.blk h1 hS, hF.R h2 hq⟩)
 replace hrun := Aside0.mk hrun
 have hd0 := blk_alloc (heap_alloc_new w zeroL) oneL
 have hF0 : Fr (fun _ => False) w ((w.alloc zeroL).alloc oneL) := ((Fr.refl _ w).alloc _).alloc _
 obtain ⟨r, hr⟩ : ∃ r, r = parseLitP s := ⟨_, rfl⟩
 rw [← hr]
 go_enter Try.func15, Try.ntmps15
 go_wp2_with fail
 refine hrun.out.mono ?_
 intro e w5 hp
 rw [show runP s (fun T n => saidP T s n) = r from hr.symm] at hp
 clear hrun
 cases r with
 | error q =>
   obtain ⟨p, x⟩ := q
   obtain ⟨rfl, hF⟩ := hp
   have hD := hF.blk hd0 (fun q => by have : w.heap.size = w.heap.size + 1 := q; omega)
   have d0 : w5.cell? ⟨w.heap.size, 0, none⟩ = some (.int .u8 0) := (blk_cell hD 0).trans rfl
   have d1 : w5.cell? ⟨w.heap.size, 1, none⟩ = some (.string ⟨#[]⟩) := (blk_cell hD 1).trans rfl
   have d2 : w5.cell? ⟨w.heap.size, 2, none⟩ = some (.string ⟨#[]⟩) := (blk_cell hD 2).trans rfl
   have d3 : w5.cell? ⟨w.heap.size, 3, none⟩ = some (.int .i64 0) := (blk_cell hD 3).trans rfl
   have d4 : w5.cell? ⟨w.heap.size, 4, none⟩ = some (.string ⟨#[]⟩) := (blk_cell hD 4).trans rfl
   have d5 : w5.cell? ⟨w.heap.size, 5, none⟩ = some (.slice none 0 0) := (blk_cell hD 5).trans rfl
   have f0 := blk_frozen hD 0
   have f1 := blk_frozen hD 1
   have f2 := blk_frozen hD 2
   have f3 := blk_frozen hD 3
   have f4 := blk_frozen hD 4
   have f5 := blk_frozen hD 5
   have hx : (x != 0) = true := by simpa using runP_err s _ (fun T n => saidP_err T s n) (p, x) (show runP s (fun T n => saidP T s n) = _ from hr.symm)
   go_wp2
   exact parseLit_end (w5 := w5) (b := w.heap.size) (p := p) (x := x) (l := Lit.z) (av := .slice none 0 0) rfl rfl rfl rfl hD
    ⟨rfl, (litSet_fr (S := fun _ => False) (hF0.step hF (fun q hq => Or.inr (by omega))) (Or.inr (Nat.le_refl _))).below (Nat.le_refl _) (fun _ q => q.elim)⟩
 | ok r =>
   obtain ⟨who, x, ts⟩ := r
   obtain ⟨rfl, ⟨w1, hz1, av, hL, hR1⟩, hF⟩ := hp
   have hD := hF.blk hd0 (fun q => by have : w.heap.size = w.heap.size + 1 := q; omega)
   obtain ⟨A1, c1, rfl⟩ := Kd.R_slice hR1
   have d0 : w5.cell? ⟨w.heap.size, 0, none⟩ = some (.int .u8 0) := (blk_cell hD 0).trans rfl
   have d1 : w5.cell? ⟨w.heap.size, 1, none⟩ = some (.string ⟨#[]⟩) := (blk_cell hD 1).trans rfl
   have d2 : w5.cell? ⟨w.heap.size, 2, none⟩ = some (.string ⟨#[]⟩) := (blk_cell hD 2).trans rfl
   have d3 : w5.cell? ⟨w.heap.size, 3, none⟩ = some (.int .i64 0) := (blk_cell hD 3).trans rfl
   have d4 : w5.cell? ⟨w.heap.size, 4, none⟩ = some (.string ⟨#[]⟩) := (blk_cell hD 4).trans rfl
   have d5 : w5.cell? ⟨w.heap.size, 5, none⟩ = some (.slice none 0 0) := (blk_cell hD 5).trans rfl
   have f0 := blk_frozen hD 0
   have f1 := blk_frozen hD 1
   have f2 := blk_frozen hD 2
   have f3 := blk_frozen hD 3
   have f4 := blk_frozen hD 4
   have f5 := blk_frozen hD 5
   have e0 : w5.cell? ⟨w.heap.size + 1, 0, none⟩ = some (.int .u8 1) := (blk_cell hL 0).trans rfl
   have e1 : w5.cell? ⟨w.heap.size + 1, 1, none⟩ = some (.string who.var) := (blk_cell hL 1).trans rfl
   have e2 : w5.cell? ⟨w.heap.size + 1, 2, none⟩ = some (.string who.val.sym) := (blk_cell hL 2).trans rfl
   have e3 : w5.cell? ⟨w.heap.size + 1, 3, none⟩ = some (.int .i64 who.val.num) := (blk_cell hL 3).trans rfl
   have e4 : w5.cell? ⟨w.heap.size + 1, 4, none⟩ = some (.string x) := (blk_cell hL 4).trans rfl
   have e5 : w5.cell? ⟨w.heap.size + 1, 5, none⟩ = some (.slice A1 ts.length c1) := (blk_cell hL 5).trans rfl
   go_wp2
   have hz : w.heap.size + 2 ≤ w1.heap.size := by simpa using hz1
   have hfar : ∀ q, w1.heap.size ≤ q → ¬ (q = w.heap.size) := fun q hq e => by omega
   exact parseLit_end (w5 := w5) (b := w.heap.size) (p := 0) (x := 0) (l := ⟨1, who, x, ts⟩) (av := .slice A1 ts.length c1) rfl rfl rfl rfl hD
    ⟨⟨_, rfl, Kd.R_mono (Kd.R_lower ((litSet_fr (S := fun q => q = w.heap.size) (Fr.refl _ w5) (Or.inl rfl)).R hR1 hfar) (by omega)) (fun q hq => by omega)⟩,
     (litSet_fr (S := fun _ => False) (hF0.step hF (fun q hq => Or.inr (by omega))) (Or.inr (Nat.le_refl _))).below (Nat.le_refl _) (fun _ q => q.elim)⟩
end Go.Proofs.Ytdhocmakbapfpaa.M
end
section
namespace Go.Proofs
open Go.Shelf
def Try.lrev_ren : Go.Shelf.Ren := ⟨fun | 35 => 111 | n => n, fun | 22 => 113 | 23 => 5 | 3 => 3 | 4 => 4 | 0 => 0 | n => n, fun | n => n⟩
theorem Try.lrev : Go.Proofs.SlLaysE.n35 Try.prog Try.lrev_ren := {
 mixed := by kernel_rfl
 f35 := ⟨Try.f111.name, by decide, Try.func111.trans (congrArg some (by kernel_rfl))⟩
 t0 := Try.underlying0
 a0 := Try.isAgg0
 z0 := Try.sizeOf0
 v0 := Try.zeroValue0
 t3 := Try.underlying3
 a3 := Try.isAgg3
 z3 := Try.sizeOf3
 v3 := Try.zeroValue3
 t4 := Try.underlying4
 a4 := Try.isAgg4
 z4 := Try.sizeOf4
 v4 := Try.zeroValue4
 t22 := Try.underlying113
 a22 := Try.isAgg113
 z22 := Try.sizeOf113
 v22 := Try.zeroValue113
 a23 := Try.isAgg5
 z23 := Try.sizeOf5 }
end Go.Proofs
end
section
namespace Go.Proofs
open Go.Shelf
def Try.lays156_ren : Go.Shelf.Ren := ⟨fun | 156 => 72 | 165 => 89 | 166 => 90 | 169 => 91 | 240 => 106 | 241 => 107 | 276 => 112 | 277 => 113 | n => n, fun | 31 => 56 | 9 => 9 | 3 => 3 | 4 => 4 | 0 => 0 | 20 => 20 | 72 => 123 | 76 => 126 | 70 => 121 | 37 => 113 | 75 => 125 | 127 => 137 | 164 => 139 | 5 => 5 | 80 => 128 | n => n, fun | n => n⟩
theorem Try.lays156 : Go.Proofs.Lays.n156 Try.prog Try.lays156_ren := {
 mixed := by kernel_rfl
 f156 := Try.func72.trans (congrArg some (by kernel_rfl))
 f165 := Try.func89.trans (congrArg some (by kernel_rfl))
 f166 := Try.func90.trans (congrArg some (by kernel_rfl))
 f169 := Try.func91.trans (congrArg some (by kernel_rfl))
 f240 := Try.func106.trans (congrArg some (by kernel_rfl))
 f241 := Try.func107.trans (congrArg some (by kernel_rfl))
 f276 := Try.func112.trans (congrArg some (by kernel_rfl))
 f277 := Try.func113.trans (congrArg some (by kernel_rfl))
 t0 := Try.underlying0
 a0 := Try.isAgg0
 z0 := Try.sizeOf0
 v0 := Try.zeroValue0
 t3 := Try.underlying3
 a3 := Try.isAgg3
 z3 := Try.sizeOf3
 v3 := Try.zeroValue3
 t4 := Try.underlying4
 a4 := Try.isAgg4
 z4 := Try.sizeOf4
 v4 := Try.zeroValue4
 t9 := Try.underlying9
 a9 := Try.isAgg9
 z9 := Try.sizeOf9
 v9 := Try.zeroValue9
 t20 := Try.underlying20
 a20 := Try.isAgg20
 z20 := Try.sizeOf20
 v20 := Try.zeroValue20
 t31 := Try.underlying56
 a31 := Try.isAgg56
 z31 := Try.sizeOf56
 v31 := Try.zeroValue56
 t37 := Try.underlying113
 a37 := Try.isAgg113
 z37 := Try.sizeOf113
 v37 := Try.zeroValue113
 t70 := Try.underlying121
 a70 := Try.isAgg121
 z70 := Try.sizeOf121
 v70 := Try.zeroValue121
 t72 := Try.underlying123
 a72 := Try.isAgg123
 z72 := Try.sizeOf123
 v72 := Try.zeroValue123
 t75 := Try.underlying125
 a75 := Try.isAgg125
 z75 := Try.sizeOf125
 v75 := Try.zeroValue125
 t76 := Try.underlying126
 a76 := Try.isAgg126
 z76 := Try.sizeOf126
 v76 := Try.zeroValue126
 t127 := Try.underlying137
 a127 := Try.isAgg137
 z127 := Try.sizeOf137
 v127 := Try.zeroValue137
 t164 := Try.underlying139
 a164 := Try.isAgg139
 z164 := Try.sizeOf139
 v164 := Try.zeroValue139 }
theorem Try.Builder_Extra_156 : Builder.Extra Try.prog Try.lays156_ren := {
 sizeBuilder := by kernel_rfl
 liesBuilder := by kernel_rfl
 t5 := Try.underlying5
 a5 := Try.isAgg5
 z5 := Try.sizeOf5
 v5 := Try.zeroValue5
 infoByte := by kernel_rfl
 cellsByte := by kernel_rfl
 sizeByte := by kernel_rfl
 neB5 := by decide }
open Go.RowKit in
theorem Try.strings_Join_none (a : Option Addr) (c : Nat) (sep : ByteArray) (w : World) :
 Calls Try.prog 72 #[.slice a 0 c, .string sep] w fun e w' => e = .returned (.string ⟨#[]⟩) ∧ w' = w := Any.strings_Join_none Try.lays156 Try.Builder_Extra_156 a c sep w
open Go.RowKit in
theorem Try.strings_Join (bk o c : Nat) (xs : List ByteArray) (sep : ByteArray) (w : World) (hcells : ∀ (j : Nat) x, xs[j]? = some x → w.cell? ⟨bk, o + j, none⟩ = some (.string x)) (hbk : bk < w.heap.size) (hN : xs.length ≤ 140737488355328) (hcap : xs.length ≤ c) (hlen : (Lib.join (xs.map (·.data.toList)) sep.data.toList).length ≤ 140737488355328) :
 Calls Try.prog 72 #[.slice (some ⟨bk, o, none⟩) xs.length c, .string sep] w fun e w' => e = .returned (.string ⟨(Lib.join (xs.map (·.data.toList)) sep.data.toList).toArray⟩) ∧ Below w.heap.size w w' := Any.strings_Join Try.lays156 Try.Builder_Extra_156 bk o c xs sep w hcells hbk hN hcap hlen
end Go.Proofs
end
section
namespace Go.Proofs.Ytdhocmakbapfpaa.M
section
variable {α : Type} {T : List Tok} {s : ByteArray} {one : Nat → PR α}
theorem tail_small : ∀ (r m : Nat) (xs : List α) (j : Nat), tailP T s one r m = .ok (xs, j) → xs.length ≤ r ∧ ∀ x ∈ xs, ∃ n k, one n = .ok (x, k)
 | 0, m, xs, j, h => by
   unfold tailP at h
   split at h
   · cases h
   · cases h
     exact ⟨Nat.le_refl _, fun x hx => absurd hx List.not_mem_nil⟩
 | r + 1, m, xs, j, h => by
   unfold tailP at h
   split at h
   · cases ho : one (m + 1) with
     | error p => simp [ho] at h
     | ok q =>
       obtain ⟨a, k⟩ := q
       simp only [ho] at h
       cases ht : tailP T s one r k with
       | error p => simp [ht] at h
       | ok q =>
         obtain ⟨ys, i⟩ := q
         simp only [ht] at h
         cases h
         obtain ⟨h1, h2⟩ := tail_small r k ys _ ht
         refine ⟨by simp only [List.length_cons]; omega, fun x hx => ?_⟩
         rcases List.mem_cons.1 hx with rfl | hx
         · exact ⟨_, _, ho⟩
         · exact h2 x hx
   · cases h
     exact ⟨Nat.zero_le _, fun x hx => absurd hx List.not_mem_nil⟩
theorem list_small {most n j : Nat} {xs : List α} (hm : 1 ≤ most) (h : listP T s one most n = .ok (xs, j)) : xs.length ≤ most ∧ ∀ x ∈ xs, ∃ n k, one n = .ok (x, k) := by
 unfold listP at h
 cases ho : one n with
 | error p => simp [ho] at h
 | ok q =>
   obtain ⟨a, m⟩ := q
   simp only [ho] at h
   cases ht : tailP T s one (most - 1) m with
   | error p => simp [ht, addL] at h
   | ok q =>
     obtain ⟨ys, i⟩ := q
     simp only [ht, addL] at h
     cases h
     obtain ⟨h1, h2⟩ := tail_small _ _ _ _ ht
     refine ⟨by simp only [List.length_append, List.length_cons, List.length_nil]; omega, fun x hx => ?_⟩
     rcases List.mem_append.1 hx with hx | hx
     · rw [List.mem_singleton.1 hx]
       exact ⟨_, _, ho⟩
     · exact h2 x hx
end
section
variable {T : List Tok} {s : ByteArray}
theorem atom_small {n i : Nat} {x : ByteArray} {ts : List Term} (h : atomP T s n = .ok ((x, ts), i)) : ts.length ≤ 4 := by
 unfold atomP at h
 cases ht : takeP T s [1] n with
 | error p => simp [ht] at h
 | ok q =>
   obtain ⟨y, m⟩ := q
   simp only [ht] at h
   split at h
   · cases hl : listP T s (termP T s) 4 (m + 1) with
     | error p => simp [hl] at h
     | ok q =>
       obtain ⟨us, j⟩ := q
       simp only [hl] at h
       cases hn : needP T s closes j with
       | error p => simp [hn] at h
       | ok q =>
         simp only [hn] at h
         cases h
         exact (list_small (by decide) hl).1
   · cases h
     exact Nat.zero_le _
theorem said_small {n i : Nat} {r : Term × (ByteArray × List Term)} (h : saidP T s n = .ok (r, i)) : r.2.2.length ≤ 4 := by
 unfold saidP at h
 repeat' split at h
 all_goals first | (cases h; done) | skip
 all_goals (cases h; rename_i ha; first | exact atom_small ha | skip)
theorem literal_small {n i : Nat} {l : Lit} (h : literalP T s n = .ok (l, i)) : l.args.length ≤ 4 := by
 unfold literalP saidL pairP at h
 repeat' split at h
 all_goals first | (cases h; done) | skip
 all_goals (cases h; first | (show _ ≤ _; simp; done) | (rename_i ha; exact said_small ha) | skip)
theorem clause_small {n i : Nat} {c : Clause} (h : clauseP T s n = .ok (c, i)) : c.body.length ≤ 6 ∧ c.head.args.length ≤ 4 ∧ ∀ l ∈ c.body, l.args.length ≤ 4 := by
 unfold clauseP at h
 cases ha : atomP T s n with
 | error p => simp [ha] at h
 | ok q =>
   obtain ⟨⟨x, ts⟩, m⟩ := q
   simp only [ha] at h
   cases hb : bodyP T s m with
   | error p => simp [hb] at h
   | ok q =>
     obtain ⟨ls, j⟩ := q
     simp only [hb] at h
     cases hn : needP T s dot j with
     | error p => simp [hn] at h
     | ok q =>
       simp only [hn] at h
       cases h
       unfold bodyP at hb
       split at hb
       · obtain ⟨h1, h2⟩ := list_small (by decide) hb
         exact ⟨h1, atom_small ha, fun l hl => by obtain ⟨_, _, h3⟩ := h2 l hl; exact literal_small h3⟩
       · cases hb
         exact ⟨Nat.zero_le _, atom_small ha, fun l hl => absurd hl List.not_mem_nil⟩
end
theorem run_ok {α : Type} {s : ByteArray} {one : List Tok → Nat → PR α} {a : α} (h : runP s one = .ok a) : ∃ T n k, one T n = .ok (a, k) := by
 unfold runP at h
 split at h
 · cases h
 · cases ho : one (allT s).1 0 with
   | error p => simp [ho] at h
   | ok q =>
     obtain ⟨b, n⟩ := q
     simp only [ho] at h
     split at h
     · cases h
     · cases h
       exact ⟨_, _, _, ho⟩
theorem parse_small {s : ByteArray} {c : Clause} (h : parseP s = .ok c) : c.body.length ≤ 6 ∧ c.head.args.length ≤ 4 ∧ ∀ l ∈ c.body, l.args.length ≤ 4 := by
 obtain ⟨T, n, k, h⟩ := run_ok h
 exact clause_small h
theorem parseLit_small {s : ByteArray} {r : Term × (ByteArray × List Term)} (h : parseLitP s = .ok r) : r.2.2.length ≤ 4 := by
 obtain ⟨T, n, k, h⟩ := run_ok h
 exact said_small h
end Go.Proofs.Ytdhocmakbapfpaa.M
end
