import Derived.Test.YtdhocmakbapfpaaQ2
set_option linter.unusedVariables false
set_option linter.unusedSimpArgs false
section
namespace Go.Proofs.Ytdhocmakbapfpaa.M
open Go.RowKit Go.Proofs.YtdhocmakbapfpaaW.PrintWords Go.Proofs.YtdhocmakbapfpaaW.PrintMore Go.Proofs.YtdhocmakbapfpaaW.PrintLast
attribute [local go_sem] max2_int min2_int max_two min_two
abbrev nots : ByteArray := ⟨#[110, 111, 116]⟩
abbrev less : ByteArray := ⟨#[60]⟩
abbrev unlike : ByteArray := ⟨#[33, 61]⟩
def compares (T : List Tok) (s : ByteArray) (n : Nat) : Bool := kindT T n == 3 || (kindT T n == 2 && !isT T s (n + 1) says) || (kindT T n == 1 && (isT T s (n + 1) less || isT T s (n + 1) unlike))
def saidL (k : Int) : PR (Term × (ByteArray × List Term)) → PR Lit
 | .error p => .error p
 | .ok ((who, (x, ts)), j) => .ok (⟨k, who, x, ts⟩, j)
def pairP (T : List Tok) (s : ByteArray) (k : Int) (a : Term) (m : Nat) : PR Lit := match termP T s (m + 1) with
 | .error p => .error p
 | .ok (c, j) => .ok (⟨k, Term.z, noStr, [a, c]⟩, j)
def literalP (T : List Tok) (s : ByteArray) (n : Nat) : PR Lit :=
 if isT T s n nots then saidL 2 (saidP T s (n + 1))
 else if compares T s n then match termP T s n with
  | .error p => .error p
  | .ok (a, m) => if isT T s m unlike then pairP T s 4 a m else if isT T s m less then pairP T s 3 a m else .error (posOf T s m, 6)
 else saidL 1 (saidP T s n)
abbrev litV (l : Lit) (av : Value) : Value := .agg #[.int .u8 l.kind, .string l.who.var, .string l.who.val.sym, .int .i64 l.who.val.num, .string l.pred, av]
def LitO (w : World) (l : Lit) (v : Value) (w' : World) : Prop := ∃ av, v = litV l av ∧ Kd.R kTerm 25 w' w.heap.size (fun q => w.heap.size ≤ q) av l.args
def rLit11.T : Bool × List (List Nat × List Nat) := (true, [([], []), ([0], [0]), ([], []), ([2], [2]), ([3], [3]), ([1, 4, 3], [1, 4]), ([0, 1, 2, 3, 4, 5], []), ([6, 5, 5, 0, 1, 2, 3, 4, 5], [5, 6])])
def rLit11.B : List Nat := [0, 1, 0, 4, 12, 31, 63, 127]
theorem rLit11.tab : rtab .any (opsOf Try.f36 11) = rLit11.T := by kernel_rfl
theorem rLit11.bits : waitsOk rLit11.T.2 rLit11.B = true := by kernel_rfl
def rLit17.T : Bool × List (List Nat × List Nat) := (true, [([], []), ([0], [0]), ([], []), ([2], [2]), ([3], [3]), ([1, 4, 3], [1, 4]), ([0, 1, 2, 3, 4, 5], []), ([6, 5, 5, 0, 1, 2, 3, 4, 5], [5, 6])])
def rLit17.B : List Nat := [0, 1, 0, 4, 12, 31, 63, 127]
theorem rLit17.tab : rtab .any (opsOf Try.f36 17) = rLit17.T := by kernel_rfl
theorem rLit17.bits : waitsOk rLit17.T.2 rLit17.B = true := by kernel_rfl
def litSet (w : World) (b : Nat) (l : Lit) (av : Value) : World := (((((w.setCell ⟨b, 0, none⟩ (.int .u8 l.kind)).setCell ⟨b, 1, none⟩ (.string l.who.var)).setCell ⟨b, 2, none⟩ (.string l.who.val.sym)).setCell ⟨b, 3, none⟩ (.int .i64 l.who.val.num)).setCell ⟨b, 4, none⟩ (.string l.pred)).setCell ⟨b, 5, none⟩ av
theorem litC_kind {k : Int} {who : Term} {pred : ByteArray} {v : Value} {rest : List Value} {ty : TypeId} {w : World} {b : Nat} (x : Int) (h : w.heap[b]? = some (.cells (litC k who pred v rest) ty (0, 0))) :
 (w.setCell ⟨b, 0, none⟩ (.int .u8 x)).heap[b]? = some (.cells (litC x who pred v rest) ty (0, 0)) := by
 have h2 := blk_set h 0 (.int .u8 x)
 rwa [show (litC k who pred v rest).setIfInBounds 0 (.int .u8 x) = litC x who pred v rest by simp [litC]] at h2
theorem then_world {K : Act → World → Prop} {Q : Exit → Act → World → Prop} {e : Exit} {a : Act} {w : World} (F : World → Prop) (hF : F w) (h : ∀ w', F w' → Exit.then K Q e a w') : Exit.then K Q e a w := h w hF
theorem results_c {fn : Func} {p : Tmp} {ty : TypeId} (h : fn.results = #[.cell p ty]) (tmps : Array Value) (w : World) (g : Nat) (t : TypeId) (cs : Array Value) (fr : Nat × Nat) {fs : Array Field}
 (hp : tmps.getD p undef = .pointer (some ⟨g, 0, none⟩)) (hg : w.heap[g]? = some (.cells cs t fr))
 (hu : Try.prog.underlying ty = some (.struct fs)) (hi : (Try.prog.info? ty).map (·.size) = some cs.size) :
 (results fn tmps).run Try.prog w = .ok (.agg cs) w := by
 have hp' : tmps[p]?.getD undef = .pointer (some ⟨g, 0, none⟩) := by simpa using hp
 simp [results, h, hp', asAddr, run_loadVar_row w g t ty cs fr _ hg hu rfl hi]
theorem litSet_blk {w : World} {b : Nat} {l : Lit} {av v : Value} {who : Term} {k : Int} {pred : ByteArray} {ty : TypeId} (h : w.heap[b]? = some (.cells (litC k who pred v []) ty (0, 0))) :
 (litSet w b l av).heap[b]? = some (.cells #[.int .u8 l.kind, .string l.who.var, .string l.who.val.sym, .int .i64 l.who.val.num, .string l.pred, av] ty (0, 0)) := by
 have h2 := blk_set (blk_set (blk_set (blk_set (blk_set (blk_set h 0 (.int .u8 l.kind)) 1 (.string l.who.var)) 2 (.string l.who.val.sym)) 3 (.int .i64 l.who.val.num)) 4 (.string l.pred)) 5 av
 exact h2.trans (congrArg (fun c => some (Obj.cells c ty (0, 0))) (by simp [litC]))
set_option maxRecDepth 100000 in
theorem lit_end {w0 w w9 : World} {T : List Tok} {s : ByteArray} {g n j : Nat} {l : Lit} {av v : Value} {a : Act} (hd : a.defers = []) (hp : a.tmps.getD 2 undef = .pointer (some ⟨w.heap.size, 0, none⟩))
 (hL : w9.heap[w.heap.size]? = some (.cells (litC 0 Term.z noStr v []) 28 (0, 0)))
 (hR : Kd.R kTerm 25 w9 w.heap.size (fun q => w.heap.size + 2 ≤ q) av l.args) (hP : PAt w0 T s w9 g j) (hF : Fr (fun q => q = g) w w9) (hg : g < w.heap.size) (he : literalP T s n = .ok (l, j)) :
 bodyPost Try.prog Try.f36 (PPost w0 T s g (fun q => q = g) w (LitO w) (literalP T s n)) .ret a (litSet w9 w.heap.size l av) := by
 refine bodyPost_ret (v := litV l av) (results_c rfl _ _ w.heap.size 28 _ (0, 0) hp (litSet_blk hL) (by rfl) (by rfl)) hd ?_
 rw [he]
 refine ⟨⟨_, rfl, av, rfl, ?_⟩, ?_, ?_⟩
 rotate_left
 · unfold litSet
   have hx : g ≠ w.heap.size := by omega
   exact (((((hP.far hx).far hx).far hx).far hx).far hx).far hx
 rotate_left
 · unfold litSet
   refine Kd.R_mono (ok := fun q => w.heap.size + 2 ≤ q) ?_ (fun q hq => by omega)
   have hx : ∀ q, w.heap.size + 2 ≤ q → q ≠ w.heap.size := fun q hq e => by omega
   exact Kd.R_far (p := ⟨w.heap.size, 5, none⟩) (Kd.R_far (p := ⟨w.heap.size, 4, none⟩) (Kd.R_far (p := ⟨w.heap.size, 3, none⟩) (Kd.R_far (p := ⟨w.heap.size, 2, none⟩) (Kd.R_far (p := ⟨w.heap.size, 1, none⟩) (Kd.R_far (p := ⟨w.heap.size, 0, none⟩) hR hx _) hx _) hx _) hx _) hx _) hx _
 · unfold litSet
   have hx : w.heap.size = g ∨ w.heap.size ≤ w.heap.size := Or.inr (Nat.le_refl _)
   exact (((((hF.set ⟨_, 0, none⟩ hx _).set ⟨_, 1, none⟩ hx _).set ⟨_, 2, none⟩ hx _).set ⟨_, 3, none⟩ hx _).set ⟨_, 4, none⟩ hx _).set ⟨_, 5, none⟩ hx _
structure LitSt (w0 : World) (T : List Tok) (s : ByteArray) (g : Nat) (w : World) (n : Nat) (k : Int) (v : Value) (acc : List Term) (w' : World) : Prop where
 p : PAt w0 T s w' g n
 f : Fr (fun q => q = g) w w'
 l : w'.heap[w.heap.size + 1]? = some (.cells (litC k Term.z noStr v []) 28 (0, 0))
 d : w'.heap[w.heap.size]? = some (.cells (litC 0 Term.z noStr (.slice none 0 0) []) 28 (0, 0))
 r : Kd.R kTerm 25 w' (w.heap.size + 2) (fun q => w.heap.size + 2 ≤ q) v acc
 z : w.heap.size + 2 ≤ w'.heap.size
 b : Bel w0 w'
section
variable {w0 w w' : World} {T : List Tok} {s : ByteArray} {g n : Nat} {k : Int} {v : Value} {acc : List Term}
theorem LitSt.drawn (h : LitSt w0 T s g w n k v acc w') {w'' : World} (hd : Drawn0 w' w'') : LitSt w0 T s g w n k v acc w'' :=
 ⟨h.p.drawn hd, h.f.drawn hd, blk_drawn h.l hd, blk_drawn h.d hd, ((Fr.refl (fun _ => False) w').drawn hd).R h.r (fun _ _ => id), by rw [drawn_size hd]; exact h.z, bel_drawn h.b hd⟩
theorem LitSt.to (h : LitSt w0 T s g w n k v acc w') (hg : g < w.heap.size) (m : Nat) (x : Int) (hx : x = m) (hm : m ≤ T.length) : LitSt w0 T s g w m k v acc (w'.setCell ⟨g, 2, none⟩ (.int .i64 x)) :=
 ⟨h.p.to m x hx hm, h.f.set _ (Or.inl rfl) _, blk_far h.l (by simp; omega), blk_far h.d (by simp; omega), Kd.R_far (p := ⟨g, 2, none⟩) h.r (fun q hq e => by have : q = g := e; omega) _, by have := h.z; simp; omega, h.b.setCell (p := ⟨g, 2, none⟩) h.p.ge _⟩
theorem LitSt.kind (h : LitSt w0 T s g w n k v acc w') (hg : g < w.heap.size) (h0 : w0.heap.size ≤ w.heap.size) (x : Int) : LitSt w0 T s g w n x v acc (w'.setCell ⟨w.heap.size + 1, 0, none⟩ (.int .u8 x)) :=
 ⟨h.p.far (by simp; omega), h.f.set _ (Or.inr (by simp)) _, litC_kind x h.l, blk_far h.d (by simp), Kd.R_far (p := ⟨w.heap.size + 1, 0, none⟩) h.r (fun q hq e => by have : q = w.heap.size + 1 := e; omega) _, by have := h.z; simp; omega, h.b.setCell (p := ⟨w.heap.size + 1, 0, none⟩) (by simp; omega) _⟩
theorem LitSt.app {v' : Value} {acc' : List Term} {n' : Nat} {w5 : World} (hB : Bel w0 w) (hg : g < w.heap.size) (h0 : w0.heap.size ≤ g) (hP : PAt w0 T s w5 g n') (hF : Fr (fun q => q = g) w w5)
 (hL : w5.heap[w.heap.size + 1]? = some (.cells (litC k Term.z noStr v []) 28 (0, 0))) (hD : w5.heap[w.heap.size]? = some (.cells (litC 0 Term.z noStr (.slice none 0 0) []) 28 (0, 0)))
 (hR : Kd.R kTerm 25 w5 (w.heap.size + 2) (fun q => w.heap.size + 2 ≤ q) v' acc') (hz : w.heap.size + 2 ≤ w5.heap.size) :
 LitSt w0 T s g w n' k v' acc' (w5.setCell ⟨w.heap.size + 1, 5, none⟩ v') := by
 have h1 := hB.size
 exact ⟨hP.far (by simp; omega), hF.set _ (Or.inr (by simp)) _, litC_args _ hL, blk_far hD (by simp), Kd.R_far (p := ⟨w.heap.size + 1, 5, none⟩) hR (fun q hq e => by have : q = w.heap.size + 1 := e; omega) _, by simp; omega,
  (hB.fr hF (fun q hq => Or.inl (by rw [hq]; exact h0))).setCell (p := ⟨w.heap.size + 1, 5, none⟩) (by simp; omega) _⟩
theorem LitSt.start (h : PAt w0 T s w g n) (hB : Bel w0 w) : LitSt w0 T s g w n 1 (.slice none 0 0) [] ((w.alloc (.cells #[.int .u8 0, .string ⟨#[]⟩, .string ⟨#[]⟩, .int .i64 0, .string ⟨#[]⟩, .slice none 0 0] 28)).alloc (.cells #[.int .u8 1, .string ⟨#[]⟩, .string ⟨#[]⟩, .int .i64 0, .string ⟨#[]⟩, .slice none 0 0] 28)) :=
 ⟨(h.alloc _).alloc _, ((Fr.refl _ w).alloc _).alloc _, by
   have h := heap_alloc_new (w.alloc (.cells #[.int .u8 0, .string ⟨#[]⟩, .string ⟨#[]⟩, .int .i64 0, .string ⟨#[]⟩, .slice none 0 0] 28)) (.cells #[.int .u8 1, .string ⟨#[]⟩, .string ⟨#[]⟩, .int .i64 0, .string ⟨#[]⟩, .slice none 0 0] 28)
   rw [show (w.alloc (.cells #[.int .u8 0, .string ⟨#[]⟩, .string ⟨#[]⟩, .int .i64 0, .string ⟨#[]⟩, .slice none 0 0] 28)).heap.size = w.heap.size + 1 by simp] at h
   exact h, blk_alloc (heap_alloc_new w _) _, Kd.R_nil _ _ _ _ _, by simp, Bel.alloc (Bel.alloc hB _) _⟩
end
set_option maxHeartbeats 8000000 in
set_option maxRecDepth 100000 in
theorem literal_calls {w0 : World} {T : List Tok} {s : ByteArray} {g n : Nat} {w : World} (hT : TokOk s T) (h : PAt w0 T s w g n) (hB : Bel w0 w) :
 Calls Try.prog 36 #[.pointer (some ⟨g, 0, none⟩)] w (PPost w0 T s g (fun q => q = g) w (LitO w) (literalP T s n)) := by
 have hgw := h.lt
 have hg0 := h.ge
 have hmx := h.max
 have hm1 := h.max1 hT
 have hS := Aside0.mk (LitSt.start h hB)
 have hB0 := Aside0.mk hB
 have hBz := hB.size
 clear h hB
 cases hn : isT T s n nots
 · cases hc : compares T s n
   · have hE := Aside0.mk (show literalP T s n = saidL 1 (saidP T s n) by unfold literalP; rw [hn, hc]; rfl)
     have hcase : ((kindT T n == 3) = false ∧ (kindT T n == 2) = true ∧ isT T s (n + 1) says = true ∧ (kindT T n == 1) = false) ∨ ((kindT T n == 3) = false ∧ (kindT T n == 2) = false ∧ (kindT T n == 1) = false) ∨ ((kindT T n == 3) = false ∧ (kindT T n == 2) = false ∧ (kindT T n == 1) = true ∧ isT T s (n + 1) less = false ∧ isT T s (n + 1) unlike = false) := by
      unfold compares at hc
      cases h3 : kindT T n == 3 <;> cases h2 : kindT T n == 2 <;> cases h1 : kindT T n == 1 <;> cases hy : isT T s (n + 1) says <;> cases hb : isT T s (n + 1) less <;> cases hu : isT T s (n + 1) unlike <;> simp_all
     clear hc
     replace hn := Aside0.mk hn
     have hS0 := hS
     clear hS
     rcases hcase with ⟨hk3, hk2, hy, hk1⟩ | ⟨hk3, hk2, hk1⟩ | ⟨hk3, hk2, hk1, hb1, hu⟩
     · cases hb1 : isT T s (n + 1) less
       · replace hb1 := Aside0.mk hb1
         replace hy := Aside0.mk hy
         go_enter Try.func36, Try.ntmps36
         go_wp2_with fail
         refine (is_calls 0 n nots (by omega) hS0.out.p hS0.out.b hT (by omega)).mono ?_; rintro e w1 ⟨rfl, hd⟩
         rw [hn.out]
         have hS1 := Aside0.mk (hS0.out.drawn hd)
         clear hd hS0
         go_wp2_with fail
         refine (kind_calls hS1.out.p hS1.out.b).mono ?_; rintro e w2 ⟨rfl, hd⟩
         have hS2 := Aside0.mk (hS1.out.drawn hd)
         clear hd hS1
         go_wp2_with fail
         refine (is_calls 1 (n + 1) less (by omega) hS2.out.p hS2.out.b hT (by omega)).mono ?_; rintro e w3 ⟨rfl, hd⟩
         rw [hb1.out]
         have hS3 := Aside0.mk (hS2.out.drawn hd)
         clear hd hS2
         go_wp2_with fail
         refine (is_calls 1 (n + 1) unlike (by omega) hS3.out.p hS3.out.b hT (by omega)).mono ?_; rintro e w4 ⟨rfl, hd⟩
         have hS4 := Aside0.mk (hS3.out.drawn hd)
         clear hd hS3
         go_wp2_with fail
         refine (is_calls 1 (n + 1) says (by omega) hS4.out.p hS4.out.b hT (by omega)).mono ?_; rintro e w5 ⟨rfl, hd⟩
         rw [hy.out]
         have hS5 := Aside0.mk (hS4.out.drawn hd)
         clear hd hS4
         go_wp2_with fail
         refine (said_calls (b := w.heap.size + 1) (k := 1) (pred0 := noStr) (rest := []) (ty := 28) hT (by omega) hS5.out.p hS5.out.b (Or.inl (by omega)) hS5.out.l).mono ?_
         intro e w9 hp
         obtain ⟨r, hr⟩ : ∃ r, r = saidP T s n := ⟨_, rfl⟩
         rw [← hr] at hp
         cases r with
         | error p =>
           obtain ⟨rfl, hF9⟩ := hp
           have hE2 := Aside0.mk (show literalP T s n = .error p by rw [hE.out, ← hr]; rfl)
           have hF := hS5.out.f
           clear hr
           go_wp2
           refine ⟨rfl, ?_⟩
           rw [hE2.out]
           exact ⟨rfl, hF.step hF9 (fun q hq => by rcases hq with rfl | rfl; exact Or.inl rfl; exact Or.inr (by omega))⟩
         | ok r =>
           obtain ⟨⟨who, x, ts⟩, j⟩ := r
           obtain ⟨rfl, hP9, ⟨v9, hL9, hR9⟩, hF9⟩ := hp
           have hE2 := Aside0.mk (show literalP T s n = .ok (⟨1, who, x, ts⟩, j) by rw [hE.out, ← hr]; rfl)
           obtain ⟨A9, c9, rfl⟩ := Kd.R_slice hR9
           have hD9 := hF9.blk hS5.out.d (fun q => by rcases q with q | q <;> omega)
           have hzz := hS5.out.z
           replace hR9 := Kd.R_mono (ok' := fun q => w.heap.size + 2 ≤ q) (Kd.R_lower hR9 (by omega : w.heap.size ≤ _)) (fun q hq => by omega)
           replace hF9 := hS5.out.f.step hF9 (fun q hq => by rcases hq with rfl | rfl; exact Or.inl rfl; exact Or.inr (by omega))
           clear hr hS5
           have e0 : w9.cell? ⟨w.heap.size + 1, 0, none⟩ = some (.int .u8 (⟨1, who, x, ts⟩ : Lit).kind) := (blk_cell hL9 0).trans rfl
           have e1 : w9.cell? ⟨w.heap.size + 1, 1, none⟩ = some (.string (⟨1, who, x, ts⟩ : Lit).who.var) := (blk_cell hL9 1).trans rfl
           have e2 : w9.cell? ⟨w.heap.size + 1, 2, none⟩ = some (.string (⟨1, who, x, ts⟩ : Lit).who.val.sym) := (blk_cell hL9 2).trans rfl
           have e3 : w9.cell? ⟨w.heap.size + 1, 3, none⟩ = some (.int .i64 (⟨1, who, x, ts⟩ : Lit).who.val.num) := (blk_cell hL9 3).trans rfl
           have e4 : w9.cell? ⟨w.heap.size + 1, 4, none⟩ = some (.string (⟨1, who, x, ts⟩ : Lit).pred) := (blk_cell hL9 4).trans rfl
           have e5 : w9.cell? ⟨w.heap.size + 1, 5, none⟩ = some (.slice A9 (⟨1, who, x, ts⟩ : Lit).args.length c9) := (blk_cell hL9 5).trans rfl
           have d0 : w9.cell? ⟨w.heap.size, 0, none⟩ = some (.int .u8 0) := (blk_cell hD9 0).trans rfl
           have d1 : w9.cell? ⟨w.heap.size, 1, none⟩ = some (.string ⟨#[]⟩) := (blk_cell hD9 1).trans rfl
           have d2 : w9.cell? ⟨w.heap.size, 2, none⟩ = some (.string ⟨#[]⟩) := (blk_cell hD9 2).trans rfl
           have d3 : w9.cell? ⟨w.heap.size, 3, none⟩ = some (.int .i64 0) := (blk_cell hD9 3).trans rfl
           have d4 : w9.cell? ⟨w.heap.size, 4, none⟩ = some (.string ⟨#[]⟩) := (blk_cell hD9 4).trans rfl
           have d5 : w9.cell? ⟨w.heap.size, 5, none⟩ = some (.slice none 0 0) := (blk_cell hD9 5).trans rfl
           have f0 := blk_frozen hD9 0
           have f1 := blk_frozen hD9 1
           have f2 := blk_frozen hD9 2
           have f3 := blk_frozen hD9 3
           have f4 := blk_frozen hD9 4
           have f5 := blk_frozen hD9 5
           have hz9 := blk_lt hD9
           have hL9 := Aside0.mk hL9
           have hD9 := Aside0.mk hD9
           have hR9 := Aside0.mk hR9
           have hP9 := Aside0.mk hP9
           have hF9 := Aside0.mk hF9
           go_wp2
           exact lit_end (l := ⟨1, who, x, ts⟩) (av := .slice A9 ts.length c9) rfl rfl hD9.out hR9.out hP9.out hF9.out hgw hE2.out
       · replace hb1 := Aside0.mk hb1
         replace hy := Aside0.mk hy
         go_enter Try.func36, Try.ntmps36
         go_wp2_with fail
         refine (is_calls 0 n nots (by omega) hS0.out.p hS0.out.b hT (by omega)).mono ?_; rintro e w1 ⟨rfl, hd⟩
         rw [hn.out]
         have hS1 := Aside0.mk (hS0.out.drawn hd)
         clear hd hS0
         go_wp2_with fail
         refine (kind_calls hS1.out.p hS1.out.b).mono ?_; rintro e w2 ⟨rfl, hd⟩
         have hS2 := Aside0.mk (hS1.out.drawn hd)
         clear hd hS1
         go_wp2_with fail
         refine (is_calls 1 (n + 1) less (by omega) hS2.out.p hS2.out.b hT (by omega)).mono ?_; rintro e w3 ⟨rfl, hd⟩
         rw [hb1.out]
         have hS3 := Aside0.mk (hS2.out.drawn hd)
         clear hd hS2
         go_wp2_with fail
         refine (is_calls 1 (n + 1) says (by omega) hS3.out.p hS3.out.b hT (by omega)).mono ?_; rintro e w4 ⟨rfl, hd⟩
         rw [hy.out]
         have hS4 := Aside0.mk (hS3.out.drawn hd)
         clear hd hS3
         go_wp2_with fail
         refine (said_calls (b := w.heap.size + 1) (k := 1) (pred0 := noStr) (rest := []) (ty := 28) hT (by omega) hS4.out.p hS4.out.b (Or.inl (by omega)) hS4.out.l).mono ?_
         intro e w9 hp
         obtain ⟨r, hr⟩ : ∃ r, r = saidP T s n := ⟨_, rfl⟩
         rw [← hr] at hp
         cases r with
         | error p =>
           obtain ⟨rfl, hF9⟩ := hp
           have hE2 := Aside0.mk (show literalP T s n = .error p by rw [hE.out, ← hr]; rfl)
           have hF := hS4.out.f
           clear hr
           go_wp2
           refine ⟨rfl, ?_⟩
           rw [hE2.out]
           exact ⟨rfl, hF.step hF9 (fun q hq => by rcases hq with rfl | rfl; exact Or.inl rfl; exact Or.inr (by omega))⟩
         | ok r =>
           obtain ⟨⟨who, x, ts⟩, j⟩ := r
           obtain ⟨rfl, hP9, ⟨v9, hL9, hR9⟩, hF9⟩ := hp
           have hE2 := Aside0.mk (show literalP T s n = .ok (⟨1, who, x, ts⟩, j) by rw [hE.out, ← hr]; rfl)
           obtain ⟨A9, c9, rfl⟩ := Kd.R_slice hR9
           have hD9 := hF9.blk hS4.out.d (fun q => by rcases q with q | q <;> omega)
           have hzz := hS4.out.z
           replace hR9 := Kd.R_mono (ok' := fun q => w.heap.size + 2 ≤ q) (Kd.R_lower hR9 (by omega : w.heap.size ≤ _)) (fun q hq => by omega)
           replace hF9 := hS4.out.f.step hF9 (fun q hq => by rcases hq with rfl | rfl; exact Or.inl rfl; exact Or.inr (by omega))
           clear hr hS4
           have e0 : w9.cell? ⟨w.heap.size + 1, 0, none⟩ = some (.int .u8 (⟨1, who, x, ts⟩ : Lit).kind) := (blk_cell hL9 0).trans rfl
           have e1 : w9.cell? ⟨w.heap.size + 1, 1, none⟩ = some (.string (⟨1, who, x, ts⟩ : Lit).who.var) := (blk_cell hL9 1).trans rfl
           have e2 : w9.cell? ⟨w.heap.size + 1, 2, none⟩ = some (.string (⟨1, who, x, ts⟩ : Lit).who.val.sym) := (blk_cell hL9 2).trans rfl
           have e3 : w9.cell? ⟨w.heap.size + 1, 3, none⟩ = some (.int .i64 (⟨1, who, x, ts⟩ : Lit).who.val.num) := (blk_cell hL9 3).trans rfl
           have e4 : w9.cell? ⟨w.heap.size + 1, 4, none⟩ = some (.string (⟨1, who, x, ts⟩ : Lit).pred) := (blk_cell hL9 4).trans rfl
           have e5 : w9.cell? ⟨w.heap.size + 1, 5, none⟩ = some (.slice A9 (⟨1, who, x, ts⟩ : Lit).args.length c9) := (blk_cell hL9 5).trans rfl
           have d0 : w9.cell? ⟨w.heap.size, 0, none⟩ = some (.int .u8 0) := (blk_cell hD9 0).trans rfl
           have d1 : w9.cell? ⟨w.heap.size, 1, none⟩ = some (.string ⟨#[]⟩) := (blk_cell hD9 1).trans rfl
           have d2 : w9.cell? ⟨w.heap.size, 2, none⟩ = some (.string ⟨#[]⟩) := (blk_cell hD9 2).trans rfl
           have d3 : w9.cell? ⟨w.heap.size, 3, none⟩ = some (.int .i64 0) := (blk_cell hD9 3).trans rfl
           have d4 : w9.cell? ⟨w.heap.size, 4, none⟩ = some (.string ⟨#[]⟩) := (blk_cell hD9 4).trans rfl
           have d5 : w9.cell? ⟨w.heap.size, 5, none⟩ = some (.slice none 0 0) := (blk_cell hD9 5).trans rfl
           have f0 := blk_frozen hD9 0
           have f1 := blk_frozen hD9 1
           have f2 := blk_frozen hD9 2
           have f3 := blk_frozen hD9 3
           have f4 := blk_frozen hD9 4
           have f5 := blk_frozen hD9 5
           have hz9 := blk_lt hD9
           have hL9 := Aside0.mk hL9
           have hD9 := Aside0.mk hD9
           have hR9 := Aside0.mk hR9
           have hP9 := Aside0.mk hP9
           have hF9 := Aside0.mk hF9
           go_wp2
           exact lit_end (l := ⟨1, who, x, ts⟩) (av := .slice A9 ts.length c9) rfl rfl hD9.out hR9.out hP9.out hF9.out hgw hE2.out
     · cases hb1 : isT T s (n + 1) less
       · replace hb1 := Aside0.mk hb1
         go_enter Try.func36, Try.ntmps36
         go_wp2_with fail
         refine (is_calls 0 n nots (by omega) hS0.out.p hS0.out.b hT (by omega)).mono ?_; rintro e w1 ⟨rfl, hd⟩
         rw [hn.out]
         have hS1 := Aside0.mk (hS0.out.drawn hd)
         clear hd hS0
         go_wp2_with fail
         refine (kind_calls hS1.out.p hS1.out.b).mono ?_; rintro e w2 ⟨rfl, hd⟩
         have hS2 := Aside0.mk (hS1.out.drawn hd)
         clear hd hS1
         go_wp2_with fail
         refine (is_calls 1 (n + 1) less (by omega) hS2.out.p hS2.out.b hT (by omega)).mono ?_; rintro e w3 ⟨rfl, hd⟩
         rw [hb1.out]
         have hS3 := Aside0.mk (hS2.out.drawn hd)
         clear hd hS2
         go_wp2_with fail
         refine (is_calls 1 (n + 1) unlike (by omega) hS3.out.p hS3.out.b hT (by omega)).mono ?_; rintro e w4 ⟨rfl, hd⟩
         have hS4 := Aside0.mk (hS3.out.drawn hd)
         clear hd hS3
         go_wp2_with fail
         refine (said_calls (b := w.heap.size + 1) (k := 1) (pred0 := noStr) (rest := []) (ty := 28) hT (by omega) hS4.out.p hS4.out.b (Or.inl (by omega)) hS4.out.l).mono ?_
         intro e w9 hp
         obtain ⟨r, hr⟩ : ∃ r, r = saidP T s n := ⟨_, rfl⟩
         rw [← hr] at hp
         cases r with
         | error p =>
           obtain ⟨rfl, hF9⟩ := hp
           have hE2 := Aside0.mk (show literalP T s n = .error p by rw [hE.out, ← hr]; rfl)
           have hF := hS4.out.f
           clear hr
           go_wp2
           refine ⟨rfl, ?_⟩
           rw [hE2.out]
           exact ⟨rfl, hF.step hF9 (fun q hq => by rcases hq with rfl | rfl; exact Or.inl rfl; exact Or.inr (by omega))⟩
         | ok r =>
           obtain ⟨⟨who, x, ts⟩, j⟩ := r
           obtain ⟨rfl, hP9, ⟨v9, hL9, hR9⟩, hF9⟩ := hp
           have hE2 := Aside0.mk (show literalP T s n = .ok (⟨1, who, x, ts⟩, j) by rw [hE.out, ← hr]; rfl)
           obtain ⟨A9, c9, rfl⟩ := Kd.R_slice hR9
           have hD9 := hF9.blk hS4.out.d (fun q => by rcases q with q | q <;> omega)
           have hzz := hS4.out.z
           replace hR9 := Kd.R_mono (ok' := fun q => w.heap.size + 2 ≤ q) (Kd.R_lower hR9 (by omega : w.heap.size ≤ _)) (fun q hq => by omega)
           replace hF9 := hS4.out.f.step hF9 (fun q hq => by rcases hq with rfl | rfl; exact Or.inl rfl; exact Or.inr (by omega))
           clear hr hS4
           have e0 : w9.cell? ⟨w.heap.size + 1, 0, none⟩ = some (.int .u8 (⟨1, who, x, ts⟩ : Lit).kind) := (blk_cell hL9 0).trans rfl
           have e1 : w9.cell? ⟨w.heap.size + 1, 1, none⟩ = some (.string (⟨1, who, x, ts⟩ : Lit).who.var) := (blk_cell hL9 1).trans rfl
           have e2 : w9.cell? ⟨w.heap.size + 1, 2, none⟩ = some (.string (⟨1, who, x, ts⟩ : Lit).who.val.sym) := (blk_cell hL9 2).trans rfl
           have e3 : w9.cell? ⟨w.heap.size + 1, 3, none⟩ = some (.int .i64 (⟨1, who, x, ts⟩ : Lit).who.val.num) := (blk_cell hL9 3).trans rfl
           have e4 : w9.cell? ⟨w.heap.size + 1, 4, none⟩ = some (.string (⟨1, who, x, ts⟩ : Lit).pred) := (blk_cell hL9 4).trans rfl
           have e5 : w9.cell? ⟨w.heap.size + 1, 5, none⟩ = some (.slice A9 (⟨1, who, x, ts⟩ : Lit).args.length c9) := (blk_cell hL9 5).trans rfl
           have d0 : w9.cell? ⟨w.heap.size, 0, none⟩ = some (.int .u8 0) := (blk_cell hD9 0).trans rfl
           have d1 : w9.cell? ⟨w.heap.size, 1, none⟩ = some (.string ⟨#[]⟩) := (blk_cell hD9 1).trans rfl
           have d2 : w9.cell? ⟨w.heap.size, 2, none⟩ = some (.string ⟨#[]⟩) := (blk_cell hD9 2).trans rfl
           have d3 : w9.cell? ⟨w.heap.size, 3, none⟩ = some (.int .i64 0) := (blk_cell hD9 3).trans rfl
           have d4 : w9.cell? ⟨w.heap.size, 4, none⟩ = some (.string ⟨#[]⟩) := (blk_cell hD9 4).trans rfl
           have d5 : w9.cell? ⟨w.heap.size, 5, none⟩ = some (.slice none 0 0) := (blk_cell hD9 5).trans rfl
           have f0 := blk_frozen hD9 0
           have f1 := blk_frozen hD9 1
           have f2 := blk_frozen hD9 2
           have f3 := blk_frozen hD9 3
           have f4 := blk_frozen hD9 4
           have f5 := blk_frozen hD9 5
           have hz9 := blk_lt hD9
           have hL9 := Aside0.mk hL9
           have hD9 := Aside0.mk hD9
           have hR9 := Aside0.mk hR9
           have hP9 := Aside0.mk hP9
           have hF9 := Aside0.mk hF9
           go_wp2
           exact lit_end (l := ⟨1, who, x, ts⟩) (av := .slice A9 ts.length c9) rfl rfl hD9.out hR9.out hP9.out hF9.out hgw hE2.out
       · replace hb1 := Aside0.mk hb1
         go_enter Try.func36, Try.ntmps36
         go_wp2_with fail
         refine (is_calls 0 n nots (by omega) hS0.out.p hS0.out.b hT (by omega)).mono ?_; rintro e w1 ⟨rfl, hd⟩
         rw [hn.out]
         have hS1 := Aside0.mk (hS0.out.drawn hd)
         clear hd hS0
         go_wp2_with fail
         refine (kind_calls hS1.out.p hS1.out.b).mono ?_; rintro e w2 ⟨rfl, hd⟩
         have hS2 := Aside0.mk (hS1.out.drawn hd)
         clear hd hS1
         go_wp2_with fail
         refine (is_calls 1 (n + 1) less (by omega) hS2.out.p hS2.out.b hT (by omega)).mono ?_; rintro e w3 ⟨rfl, hd⟩
         rw [hb1.out]
         have hS3 := Aside0.mk (hS2.out.drawn hd)
         clear hd hS2
         go_wp2_with fail
         refine (said_calls (b := w.heap.size + 1) (k := 1) (pred0 := noStr) (rest := []) (ty := 28) hT (by omega) hS3.out.p hS3.out.b (Or.inl (by omega)) hS3.out.l).mono ?_
         intro e w9 hp
         obtain ⟨r, hr⟩ : ∃ r, r = saidP T s n := ⟨_, rfl⟩
         rw [← hr] at hp
         cases r with
         | error p =>
           obtain ⟨rfl, hF9⟩ := hp
           have hE2 := Aside0.mk (show literalP T s n = .error p by rw [hE.out, ← hr]; rfl)
           have hF := hS3.out.f
           clear hr
           go_wp2
           refine ⟨rfl, ?_⟩
           rw [hE2.out]
           exact ⟨rfl, hF.step hF9 (fun q hq => by rcases hq with rfl | rfl; exact Or.inl rfl; exact Or.inr (by omega))⟩
         | ok r =>
           obtain ⟨⟨who, x, ts⟩, j⟩ := r
           obtain ⟨rfl, hP9, ⟨v9, hL9, hR9⟩, hF9⟩ := hp
           have hE2 := Aside0.mk (show literalP T s n = .ok (⟨1, who, x, ts⟩, j) by rw [hE.out, ← hr]; rfl)
           obtain ⟨A9, c9, rfl⟩ := Kd.R_slice hR9
           have hD9 := hF9.blk hS3.out.d (fun q => by rcases q with q | q <;> omega)
           have hzz := hS3.out.z
           replace hR9 := Kd.R_mono (ok' := fun q => w.heap.size + 2 ≤ q) (Kd.R_lower hR9 (by omega : w.heap.size ≤ _)) (fun q hq => by omega)
           replace hF9 := hS3.out.f.step hF9 (fun q hq => by rcases hq with rfl | rfl; exact Or.inl rfl; exact Or.inr (by omega))
           clear hr hS3
           have e0 : w9.cell? ⟨w.heap.size + 1, 0, none⟩ = some (.int .u8 (⟨1, who, x, ts⟩ : Lit).kind) := (blk_cell hL9 0).trans rfl
           have e1 : w9.cell? ⟨w.heap.size + 1, 1, none⟩ = some (.string (⟨1, who, x, ts⟩ : Lit).who.var) := (blk_cell hL9 1).trans rfl
           have e2 : w9.cell? ⟨w.heap.size + 1, 2, none⟩ = some (.string (⟨1, who, x, ts⟩ : Lit).who.val.sym) := (blk_cell hL9 2).trans rfl
           have e3 : w9.cell? ⟨w.heap.size + 1, 3, none⟩ = some (.int .i64 (⟨1, who, x, ts⟩ : Lit).who.val.num) := (blk_cell hL9 3).trans rfl
           have e4 : w9.cell? ⟨w.heap.size + 1, 4, none⟩ = some (.string (⟨1, who, x, ts⟩ : Lit).pred) := (blk_cell hL9 4).trans rfl
           have e5 : w9.cell? ⟨w.heap.size + 1, 5, none⟩ = some (.slice A9 (⟨1, who, x, ts⟩ : Lit).args.length c9) := (blk_cell hL9 5).trans rfl
           have d0 : w9.cell? ⟨w.heap.size, 0, none⟩ = some (.int .u8 0) := (blk_cell hD9 0).trans rfl
           have d1 : w9.cell? ⟨w.heap.size, 1, none⟩ = some (.string ⟨#[]⟩) := (blk_cell hD9 1).trans rfl
           have d2 : w9.cell? ⟨w.heap.size, 2, none⟩ = some (.string ⟨#[]⟩) := (blk_cell hD9 2).trans rfl
           have d3 : w9.cell? ⟨w.heap.size, 3, none⟩ = some (.int .i64 0) := (blk_cell hD9 3).trans rfl
           have d4 : w9.cell? ⟨w.heap.size, 4, none⟩ = some (.string ⟨#[]⟩) := (blk_cell hD9 4).trans rfl
           have d5 : w9.cell? ⟨w.heap.size, 5, none⟩ = some (.slice none 0 0) := (blk_cell hD9 5).trans rfl
           have f0 := blk_frozen hD9 0
           have f1 := blk_frozen hD9 1
           have f2 := blk_frozen hD9 2
           have f3 := blk_frozen hD9 3
           have f4 := blk_frozen hD9 4
           have f5 := blk_frozen hD9 5
           have hz9 := blk_lt hD9
           have hL9 := Aside0.mk hL9
           have hD9 := Aside0.mk hD9
           have hR9 := Aside0.mk hR9
           have hP9 := Aside0.mk hP9
           have hF9 := Aside0.mk hF9
           go_wp2
           exact lit_end (l := ⟨1, who, x, ts⟩) (av := .slice A9 ts.length c9) rfl rfl hD9.out hR9.out hP9.out hF9.out hgw hE2.out
     · replace hb1 := Aside0.mk hb1
       go_enter Try.func36, Try.ntmps36
       go_wp2_with fail
       refine (is_calls 0 n nots (by omega) hS0.out.p hS0.out.b hT (by omega)).mono ?_; rintro e w1 ⟨rfl, hd⟩
       rw [hn.out]
       have hS1 := Aside0.mk (hS0.out.drawn hd)
       clear hd hS0
       go_wp2_with fail
       refine (kind_calls hS1.out.p hS1.out.b).mono ?_; rintro e w2 ⟨rfl, hd⟩
       have hS2 := Aside0.mk (hS1.out.drawn hd)
       clear hd hS1
       go_wp2_with fail
       refine (is_calls 1 (n + 1) less (by omega) hS2.out.p hS2.out.b hT (by omega)).mono ?_; rintro e w3 ⟨rfl, hd⟩
       rw [hb1.out]
       have hS3 := Aside0.mk (hS2.out.drawn hd)
       clear hd hS2
       go_wp2_with fail
       refine (is_calls 1 (n + 1) unlike (by omega) hS3.out.p hS3.out.b hT (by omega)).mono ?_; rintro e w4 ⟨rfl, hd⟩
       have hS4 := Aside0.mk (hS3.out.drawn hd)
       clear hd hS3
       go_wp2_with fail
       refine (said_calls (b := w.heap.size + 1) (k := 1) (pred0 := noStr) (rest := []) (ty := 28) hT (by omega) hS4.out.p hS4.out.b (Or.inl (by omega)) hS4.out.l).mono ?_
       intro e w9 hp
       obtain ⟨r, hr⟩ : ∃ r, r = saidP T s n := ⟨_, rfl⟩
       rw [← hr] at hp
       cases r with
       | error p =>
         obtain ⟨rfl, hF9⟩ := hp
         have hE2 := Aside0.mk (show literalP T s n = .error p by rw [hE.out, ← hr]; rfl)
         have hF := hS4.out.f
         clear hr
         go_wp2
         refine ⟨rfl, ?_⟩
         rw [hE2.out]
         exact ⟨rfl, hF.step hF9 (fun q hq => by rcases hq with rfl | rfl; exact Or.inl rfl; exact Or.inr (by omega))⟩
       | ok r =>
         obtain ⟨⟨who, x, ts⟩, j⟩ := r
         obtain ⟨rfl, hP9, ⟨v9, hL9, hR9⟩, hF9⟩ := hp
         have hE2 := Aside0.mk (show literalP T s n = .ok (⟨1, who, x, ts⟩, j) by rw [hE.out, ← hr]; rfl)
         obtain ⟨A9, c9, rfl⟩ := Kd.R_slice hR9
         have hD9 := hF9.blk hS4.out.d (fun q => by rcases q with q | q <;> omega)
         have hzz := hS4.out.z
         replace hR9 := Kd.R_mono (ok' := fun q => w.heap.size + 2 ≤ q) (Kd.R_lower hR9 (by omega : w.heap.size ≤ _)) (fun q hq => by omega)
         replace hF9 := hS4.out.f.step hF9 (fun q hq => by rcases hq with rfl | rfl; exact Or.inl rfl; exact Or.inr (by omega))
         clear hr hS4
         have e0 : w9.cell? ⟨w.heap.size + 1, 0, none⟩ = some (.int .u8 (⟨1, who, x, ts⟩ : Lit).kind) := (blk_cell hL9 0).trans rfl
         have e1 : w9.cell? ⟨w.heap.size + 1, 1, none⟩ = some (.string (⟨1, who, x, ts⟩ : Lit).who.var) := (blk_cell hL9 1).trans rfl
         have e2 : w9.cell? ⟨w.heap.size + 1, 2, none⟩ = some (.string (⟨1, who, x, ts⟩ : Lit).who.val.sym) := (blk_cell hL9 2).trans rfl
         have e3 : w9.cell? ⟨w.heap.size + 1, 3, none⟩ = some (.int .i64 (⟨1, who, x, ts⟩ : Lit).who.val.num) := (blk_cell hL9 3).trans rfl
         have e4 : w9.cell? ⟨w.heap.size + 1, 4, none⟩ = some (.string (⟨1, who, x, ts⟩ : Lit).pred) := (blk_cell hL9 4).trans rfl
         have e5 : w9.cell? ⟨w.heap.size + 1, 5, none⟩ = some (.slice A9 (⟨1, who, x, ts⟩ : Lit).args.length c9) := (blk_cell hL9 5).trans rfl
         have d0 : w9.cell? ⟨w.heap.size, 0, none⟩ = some (.int .u8 0) := (blk_cell hD9 0).trans rfl
         have d1 : w9.cell? ⟨w.heap.size, 1, none⟩ = some (.string ⟨#[]⟩) := (blk_cell hD9 1).trans rfl
         have d2 : w9.cell? ⟨w.heap.size, 2, none⟩ = some (.string ⟨#[]⟩) := (blk_cell hD9 2).trans rfl
         have d3 : w9.cell? ⟨w.heap.size, 3, none⟩ = some (.int .i64 0) := (blk_cell hD9 3).trans rfl
         have d4 : w9.cell? ⟨w.heap.size, 4, none⟩ = some (.string ⟨#[]⟩) := (blk_cell hD9 4).trans rfl
         have d5 : w9.cell? ⟨w.heap.size, 5, none⟩ = some (.slice none 0 0) := (blk_cell hD9 5).trans rfl
         have f0 := blk_frozen hD9 0
         have f1 := blk_frozen hD9 1
         have f2 := blk_frozen hD9 2
         have f3 := blk_frozen hD9 3
         have f4 := blk_frozen hD9 4
         have f5 := blk_frozen hD9 5
         have hz9 := blk_lt hD9
         have hL9 := Aside0.mk hL9
         have hD9 := Aside0.mk hD9
         have hR9 := Aside0.mk hR9
         have hP9 := Aside0.mk hP9
         have hF9 := Aside0.mk hF9
         go_wp2
         exact lit_end (l := ⟨1, who, x, ts⟩) (av := .slice A9 ts.length c9) rfl rfl hD9.out hR9.out hP9.out hF9.out hgw hE2.out
   · have hE := Aside0.mk (show literalP T s n = match termP T s n with
      | .error p => .error p
      | .ok (a, m) => if isT T s m unlike then pairP T s 4 a m else if isT T s m less then pairP T s 3 a m else .error (posOf T s m, 6) by unfold literalP; rw [hn, hc]; rfl)
     have hcase : (kindT T n == 3) = true ∨ ((kindT T n == 3) = false ∧ (kindT T n == 2) = true ∧ isT T s (n + 1) says = false) ∨ ((kindT T n == 3) = false ∧ (kindT T n == 2) = false ∧ (kindT T n == 1) = true ∧ isT T s (n + 1) less = false ∧ isT T s (n + 1) unlike = true) ∨ ((kindT T n == 3) = false ∧ (kindT T n == 2) = false ∧ (kindT T n == 1) = true ∧ isT T s (n + 1) less = true) := by
      unfold compares at hc
      cases h3 : kindT T n == 3 <;> cases h2 : kindT T n == 2 <;> cases h1 : kindT T n == 1 <;> cases hy : isT T s (n + 1) says <;> cases hb : isT T s (n + 1) less <;> cases hu : isT T s (n + 1) unlike <;> simp_all
     clear hc
     replace hn := Aside0.mk hn
     have hS0 := hS
     clear hS
     rcases hcase with hk3 | ⟨hk3, hk2, hy⟩ | ⟨hk3, hk2, hk1, hb1, hb2⟩ | ⟨hk3, hk2, hk1, hb1⟩
     · cases hb1 : isT T s (n + 1) less
       · replace hb1 := Aside0.mk hb1
         go_enter Try.func36, Try.ntmps36
         go_wp2_with fail
         refine (is_calls 0 n nots (by omega) hS0.out.p hS0.out.b hT (by omega)).mono ?_; rintro e w1 ⟨rfl, hd⟩
         rw [hn.out]
         have hS1 := Aside0.mk (hS0.out.drawn hd)
         clear hd hS0
         go_wp2_with fail
         refine (kind_calls hS1.out.p hS1.out.b).mono ?_; rintro e w2 ⟨rfl, hd⟩
         have hS2 := Aside0.mk (hS1.out.drawn hd)
         clear hd hS1
         go_wp2_with fail
         refine (is_calls 1 (n + 1) less (by omega) hS2.out.p hS2.out.b hT (by omega)).mono ?_; rintro e w3 ⟨rfl, hd⟩
         rw [hb1.out]
         have hS3 := Aside0.mk (hS2.out.drawn hd)
         clear hd hS2
         go_wp2_with fail
         refine (is_calls 1 (n + 1) unlike (by omega) hS3.out.p hS3.out.b hT (by omega)).mono ?_; rintro e w4 ⟨rfl, hd⟩
         have hS4 := Aside0.mk (hS3.out.drawn hd)
         clear hd hS3
         have e0 : w4.cell? ⟨w.heap.size + 1, 0, none⟩ = some (.int .u8 1) := (blk_cell hS4.out.l 0).trans rfl
         have f0 := blk_frozen hS4.out.l 0
         go_wp2_with fail
         obtain ⟨v3, hv3⟩ : ∃ v3, v3 = Value.slice none 0 0 := ⟨_, rfl⟩
         refine wp_world (fun w' => LitSt w0 T s g w n 3 v3 [] w') (by rw [hv3]; exact hS4.out.kind hgw hBz 3) (fun w3 hS3 => ?_)
         replace hS3 := Aside0.mk hS3
         clear hS4 e0 f0 hv3
         have hP3 := Aside0.mk hS3.out.p
         have hB3 := Aside0.mk hS3.out.b
         have hF3 := Aside0.mk hS3.out.f
         have hL3 := Aside0.mk hS3.out.l
         have hD3 := Aside0.mk hS3.out.d
         have hR3 := Aside0.mk hS3.out.r
         have hz3 := hS3.out.z
         have c5 : w3.cell? ⟨w.heap.size + 1, 5, none⟩ = some v3 := (blk_cell hL3.out 5).trans rfl
         obtain ⟨r, hr⟩ : ∃ r, r = termP T s n := ⟨_, rfl⟩
         cases r with
         | error p =>
           have hE2 := Aside0.mk (show literalP T s n = .error p by rw [hE.out, ← hr])
           replace hr := Aside0.mk hr
           refine start_ (n := 8) (S := fun w' => w'.cell? ⟨w.heap.size + 1, 5, none⟩ = some v3) (ds := [7]) #[false,false,false,false,false,false,false,false] rfl rfl rfl c5 (fun hS_ => ?_)
           refine with_tabW rLit11.tab rLit11.bits (fun HT_ HW_ => ?_)
           refine pure_ (i := 0) (N := some 47) (v := ?_) (a' := ?_) #[true,false,false,false,false,false,false,false] rfl rfl (any_of HT_.out (by kernel_rfl)) (fun _ _ _ h => h) (Or.inl ⟨by rfl, ?_⟩) ?_ ?_
           rotate_left; · (intro w'; go_simp; with_reducible rfl)
           rotate_left; · (simp only [Act.put, List.setIfInBounds_toArray, List.set_cons_zero, List.set_cons_succ]; rfl)
           refine take_ (i := 1) (N := some 48) (v := ?_) (a' := ?_) #[true,true,false,false,false,false,false,false] rfl rfl (take_ofW HT_.out HW_.out (by kernel_rfl)) (fun _ _ _ h => h) (Or.inl ⟨by rfl, ?_⟩) hS_ ?_ ?_
           rotate_left; · (rintro w' s0; go_simp; with_reducible rfl)
           rotate_left; · (simp only [Act.put, List.setIfInBounds_toArray, List.set_cons_zero, List.set_cons_succ]; rfl)
           refine pure_ (i := 2) (N := some 49) (v := ?_) (a' := ?_) #[true,true,true,false,false,false,false,false] rfl rfl (any_of HT_.out (by kernel_rfl)) (fun _ _ _ h => h) (Or.inl ⟨by rfl, ?_⟩) ?_ ?_
           rotate_left; · (intro w'; go_simp; with_reducible rfl)
           rotate_left; · (simp only [Act.put, List.setIfInBounds_toArray, List.set_cons_zero, List.set_cons_succ]; rfl)
           refine one_ (i := 3) (N := some 50) #[true,true,true,true,false,false,false,false] rfl rfl (one_of HT_.out (by kernel_rfl)) (by decide) (fun K hK => ?_)
           refine goesP Try.func66 (by kernel_rfl) rfl #[.pointer (some ⟨g, 0, none⟩)] (by rfl) rfl rfl (by simp only [List.map_toArray, List.map_cons, List.map_nil]; rfl) ?_
           refine (term_calls (w0 := w0) (T := T) (s := s) (n := n) hP3.out.drew (Bel.drew hB3.out) hT).mono ?_
           rw [← hr.out]
           rintro e w4 ⟨rfl, hF4⟩
           refine .inr ⟨_, rfl, ?_⟩
           refine ⟨rfl, ?_⟩
           rw [hE2.out]
           exact ⟨rfl, hF3.out.drew.trans hF4⟩
         | ok r =>
           obtain ⟨a, m⟩ := r
           have hE2 := Aside0.mk (show literalP T s n = if isT T s m unlike then pairP T s 4 a m else if isT T s m less then pairP T s 3 a m else .error (posOf T s m, 6) by rw [hE.out, ← hr])
           replace hr := Aside0.mk hr
           refine start_ (n := 8) (S := fun w' => w'.cell? ⟨w.heap.size + 1, 5, none⟩ = some v3) (ds := [7]) #[false,false,false,false,false,false,false,false] rfl rfl rfl c5 (fun hS_ => ?_)
           refine with_tabW rLit11.tab rLit11.bits (fun HT_ HW_ => ?_)
           refine pure_ (i := 0) (N := some 47) (v := ?_) (a' := ?_) #[true,false,false,false,false,false,false,false] rfl rfl (any_of HT_.out (by kernel_rfl)) (fun _ _ _ h => h) (Or.inl ⟨by rfl, ?_⟩) ?_ ?_
           rotate_left; · (intro w'; go_simp; with_reducible rfl)
           rotate_left; · (simp only [Act.put, List.setIfInBounds_toArray, List.set_cons_zero, List.set_cons_succ]; rfl)
           refine take_ (i := 1) (N := some 48) (v := ?_) (a' := ?_) #[true,true,false,false,false,false,false,false] rfl rfl (take_ofW HT_.out HW_.out (by kernel_rfl)) (fun _ _ _ h => h) (Or.inl ⟨by rfl, ?_⟩) hS_ ?_ ?_
           rotate_left; · (rintro w' s0; go_simp; with_reducible rfl)
           rotate_left; · (simp only [Act.put, List.setIfInBounds_toArray, List.set_cons_zero, List.set_cons_succ]; rfl)
           refine pure_ (i := 2) (N := some 49) (v := ?_) (a' := ?_) #[true,true,true,false,false,false,false,false] rfl rfl (any_of HT_.out (by kernel_rfl)) (fun _ _ _ h => h) (Or.inl ⟨by rfl, ?_⟩) ?_ ?_
           rotate_left; · (intro w'; go_simp; with_reducible rfl)
           rotate_left; · (simp only [Act.put, List.setIfInBounds_toArray, List.set_cons_zero, List.set_cons_succ]; rfl)
           refine one_ (i := 3) (N := some 50) #[true,true,true,true,false,false,false,false] rfl rfl (one_of HT_.out (by kernel_rfl)) (by decide) (fun K hK => ?_)
           refine goesP Try.func66 (by kernel_rfl) rfl #[.pointer (some ⟨g, 0, none⟩)] (by rfl) rfl rfl (by simp only [List.map_toArray, List.map_cons, List.map_nil]; rfl) ?_
           refine (term_calls (w0 := w0) (T := T) (s := s) (n := n) hP3.out.drew (Bel.drew hB3.out) hT).mono ?_
           rw [← hr.out]
           rintro e w4 ⟨⟨v1, rfl, rfl⟩, hP4, hF4⟩
           refine .inl ⟨_, rfl, ?_⟩
           refine hK.out _ _ (hF4.cell (p := ⟨w.heap.size + 1, 5, none⟩) hS_ (by simp; omega)) (fun hS_ => ?_)
           clear hK K
           refine norm_ (a' := ?_) ?_ ?_
           rotate_left; · (show Act.put _ (some 50) _ = _; simp only [Act.put, List.setIfInBounds_toArray, List.set_cons_zero, List.set_cons_succ]; rfl)
           refine one_ (i := 4) (N := some 51) #[true,true,true,true,true,false,false,false] rfl rfl (one_of HT_.out (by kernel_rfl)) (by decide) (fun K hK => ?_)
           refine value_ (w1 := ?_) (v := ?_) (by rfl) rfl ?_ ?_
           rotate_left 2; · (go_simp; constructor; rfl; rfl)
           refine hK.out _ _ (cell_alloc hS_ _) (fun hS_ => ?_)
           clear hK K
           refine norm_ (a' := ?_) ?_ ?_
           rotate_left; · (show Act.put _ (some 51) _ = _; simp only [Act.put, List.setIfInBounds_toArray, List.set_cons_zero, List.set_cons_succ]; rfl)
           refine one_ (i := 5) (N := some 52) #[true,true,true,true,true,true,false,false] rfl rfl (one_of HT_.out (by kernel_rfl)) (by decide) (fun K hK => ?_)
           refine Kd.R_append_step kTerm (w0 := w4) (w.heap.size + 2) (by rfl) (.tmp 48) (.tmp 51) 26 25 (.agg #[.string ⟨#[]⟩, .string ⟨#[]⟩, .int .i64 0]) 40 (by rfl) Try.underlying26 info_term (by rfl) (by decide) (by omega) v3 [] a [.string a.var, .string a.val.sym, .int .i64 a.val.num] (fun q => w.heap.size + 2 ≤ q) (fun _ => False) (by rfl) (by rfl) (kTerm_mkM _ _ _ a) (fun _ hk => hk.elim) (fun _ hk => Nat.le_trans (Nat.le_trans hz3 hF4.size) hk) (hF4.R (Kd.R_drew hR3.out) (fun q hq e => by have : q = g := e; omega)) (Below.refl _ _) (Nat.le_trans hz3 hF4.size) (by simp) ?_
           intro v5 w5 hR5 hB5 hg5 hat5
           obtain ⟨gg, cap, rfl, hgg⟩ := Kd.R_form hR5 (by simp)
           have bk5 : ∀ x o, w3.heap[x]? = some o → x ≠ g → x < w.heap.size + 2 → w5.heap[x]? = some o := fun x o ho hx hxB => (hg5.block x (Nat.lt_of_lt_of_le (blk_lt ho) hF4.size) (fun e => absurd (hR3.out.1 x e.symm) (Nat.not_le.mpr hxB))).trans (hF4.blk (blk_drew ho) hx)
           have hL5 := Aside0.mk (bk5 _ _ hL3.out (by omega) (by omega))
           have hD5 := Aside0.mk (bk5 _ _ hD3.out (by omega) (by omega))
           have hg5g : w5.heap[g]? = w4.heap[g]? := hg5.block g hP4.lt (fun e => absurd (hR3.out.1 g e.symm) (by omega))
           have hP5 : Aside0 (PAt w0 T s w5 g _) := ⟨by obtain ⟨A, c, hx, rr⟩ := hP4; exact ⟨A, c, hg5g.trans hx, rr⟩⟩
           have hF5 := Aside0.mk ((hF3.out.drew.trans hF4).step (Fr.of_grown hg5 (S := fun q => w.heap.size + 2 ≤ q) (fun q e => Or.inl (hR3.out.1 q e))) (fun q hq => Or.inr (by omega)))
           have hz5 : w4.heap.size ≤ w5.heap.size := hg5.size
           have hR5 := Aside0.mk hR5
           clear bk5 hg5g hg5 hB5 hat5 hgg
           refine hK.out _ _ ((blk_cell hL5.out 5).trans rfl) (fun hS_ => ?_)
           clear hK K
           refine norm_ (a' := ?_) ?_ ?_
           rotate_left; · (show Act.put _ (some 52) _ = _; simp only [Act.put, List.setIfInBounds_toArray, List.set_cons_zero, List.set_cons_succ]; rfl)
           refine pure_ (i := 6) (N := some 53) (v := ?_) (a' := ?_) #[true,true,true,true,true,true,true,false] rfl rfl (any_of HT_.out (by kernel_rfl)) (fun _ _ _ h => h) (Or.inl ⟨by rfl, ?_⟩) ?_ ?_
           rotate_left; · (intro w'; go_simp; with_reducible rfl)
           rotate_left; · (simp only [Act.put, List.setIfInBounds_toArray, List.set_cons_zero, List.set_cons_succ]; rfl)
           refine last_ (i := 7) (N := none) #[true,true,true,true,true,true,true,true] rfl rfl (one_of HT_.out (by kernel_rfl)) (by decide) (fun K hK => ?_)
           have e5 : w5.cell? ⟨w.heap.size + 1, 5, none⟩ = some v3 := (blk_cell hL5.out 5).trans rfl
           have f5 : w5.frozen? ⟨w.heap.size + 1, 5, none⟩ = false := blk_frozen hL5.out 5
           refine skip_ (w1 := ?_) (by rfl) rfl ?_ ?_
           rotate_left; · (go_simp; rfl)
           refine hK.out _ _ ?_
           clear hK K
           refine wpAnyLast_done (by kernel_rfl) ?_ _
           have hS5 := LitSt.app hB0.out hgw hg0 hP5.out hF5.out hL5.out hD5.out hR5.out (Nat.le_trans (Nat.le_trans hz3 hF4.size) hz5)
           refine then_world (fun w' => LitSt w0 T s g w m 3 _ [a] w') hS5 (fun w3 hS3 => ?_)
           replace hS3 := Aside0.mk hS3
           have hmx := hS3.out.p.max
           clear hP3 hB3 hF3 hL3 hD3 hR3 hr hP4 hF4 hP5 hF5 hL5 hD5 hR5 hS_ HT_ HW_ c5
           skip
           cases hu : isT T s m unlike
           · cases hl : isT T s m less
             · have hE3 := Aside0.mk (show literalP T s n = .error (posOf T s m, 6) by rw [hE2.out, hu, hl]; rfl)
               replace hu := Aside0.mk hu
               replace hl := Aside0.mk hl
               go_wp2_with fail
               refine (is_calls 0 m unlike (by omega) hS3.out.p hS3.out.b hT (by omega)).mono ?_; rintro e w7 ⟨rfl, hd⟩
               rw [hu.out]
               have hS7 := Aside0.mk (hS3.out.drawn hd)
               clear hd hS3
               go_wp2_with fail
               refine (is_calls 0 m less (by omega) hS7.out.p hS7.out.b hT (by omega)).mono ?_; rintro e w8 ⟨rfl, hd⟩
               rw [hl.out]
               have hS8 := Aside0.mk (hS7.out.drawn hd)
               clear hd hS7
               go_wp2_with fail
               refine (fail_calls 6 hS8.out.p hS8.out.b).mono ?_; rintro e w9 ⟨rfl, hd⟩
               go_wp2
               refine ⟨rfl, ?_⟩
               rw [hE3.out]
               exact ⟨rfl, hS8.out.f.drawn hd⟩
             · have hE3 := Aside0.mk (show literalP T s n = pairP T s 3 a m by rw [hE2.out, hu, hl]; rfl)
               have hlt := isT_lt hl
               replace hu := Aside0.mk hu
               replace hl := Aside0.mk hl
               go_wp2_with fail
               refine (is_calls 0 m unlike (by omega) hS3.out.p hS3.out.b hT (by omega)).mono ?_; rintro e w7 ⟨rfl, hd⟩
               rw [hu.out]
               have hS7 := Aside0.mk (hS3.out.drawn hd)
               clear hd hS3
               go_wp2_with fail
               refine (is_calls 0 m less (by omega) hS7.out.p hS7.out.b hT (by omega)).mono ?_; rintro e w8 ⟨rfl, hd⟩
               rw [hl.out]
               have hS8 := Aside0.mk (hS7.out.drawn hd)
               clear hd hS7
               have e0 : w8.cell? ⟨w.heap.size + 1, 0, none⟩ = some (.int .u8 3) := (blk_cell hS8.out.l 0).trans rfl
               have f0 := blk_frozen hS8.out.l 0
               obtain ⟨A1, c1, p0, p1, p2, q2, hm, _, _⟩ := hS8.out.p.cells
               go_wp2_with fail
               obtain ⟨v3, hv3⟩ : ∃ v3, LitSt w0 T s g w m 3 v3 [a] w8 := ⟨_, hS8.out⟩
               refine wp_world (fun w' => LitSt w0 T s g w (m + 1) 3 v3 [a] w') (hv3.to hgw (m + 1) ((m : Int) + 1) (by omega) (by omega)) (fun w3 hS3 => ?_)
               replace hS3 := Aside0.mk hS3
               clear hS8 e0 f0 p0 p1 p2 q2 hE2 hv3
               have hP3 := Aside0.mk hS3.out.p
               have hB3 := Aside0.mk hS3.out.b
               have hF3 := Aside0.mk hS3.out.f
               have hL3 := Aside0.mk hS3.out.l
               have hD3 := Aside0.mk hS3.out.d
               have hR3 := Aside0.mk hS3.out.r
               have hz3 := hS3.out.z
               have c5 : w3.cell? ⟨w.heap.size + 1, 5, none⟩ = some v3 := (blk_cell hL3.out 5).trans rfl
               obtain ⟨r, hr⟩ : ∃ r, r = termP T s (m + 1) := ⟨_, rfl⟩
               cases r with
               | error p =>
                 have hE4 := Aside0.mk (show literalP T s n = .error p by rw [hE3.out]; unfold pairP; rw [← hr])
                 replace hr := Aside0.mk hr
                 refine start_ (n := 8) (S := fun w' => w'.cell? ⟨w.heap.size + 1, 5, none⟩ = some v3) (ds := [7]) #[false,false,false,false,false,false,false,false] rfl rfl rfl c5 (fun hS_ => ?_)
                 refine with_tabW rLit17.tab rLit17.bits (fun HT_ HW_ => ?_)
                 refine pure_ (i := 0) (N := some 69) (v := ?_) (a' := ?_) #[true,false,false,false,false,false,false,false] rfl rfl (any_of HT_.out (by kernel_rfl)) (fun _ _ _ h => h) (Or.inl ⟨by rfl, ?_⟩) ?_ ?_
                 rotate_left; · (intro w'; go_simp; with_reducible rfl)
                 rotate_left; · (simp only [Act.put, List.setIfInBounds_toArray, List.set_cons_zero, List.set_cons_succ]; rfl)
                 refine take_ (i := 1) (N := some 70) (v := ?_) (a' := ?_) #[true,true,false,false,false,false,false,false] rfl rfl (take_ofW HT_.out HW_.out (by kernel_rfl)) (fun _ _ _ h => h) (Or.inl ⟨by rfl, ?_⟩) hS_ ?_ ?_
                 rotate_left; · (rintro w' s0; go_simp; with_reducible rfl)
                 rotate_left; · (simp only [Act.put, List.setIfInBounds_toArray, List.set_cons_zero, List.set_cons_succ]; rfl)
                 refine pure_ (i := 2) (N := some 71) (v := ?_) (a' := ?_) #[true,true,true,false,false,false,false,false] rfl rfl (any_of HT_.out (by kernel_rfl)) (fun _ _ _ h => h) (Or.inl ⟨by rfl, ?_⟩) ?_ ?_
                 rotate_left; · (intro w'; go_simp; with_reducible rfl)
                 rotate_left; · (simp only [Act.put, List.setIfInBounds_toArray, List.set_cons_zero, List.set_cons_succ]; rfl)
                 refine one_ (i := 3) (N := some 72) #[true,true,true,true,false,false,false,false] rfl rfl (one_of HT_.out (by kernel_rfl)) (by decide) (fun K hK => ?_)
                 refine goesP Try.func66 (by kernel_rfl) rfl #[.pointer (some ⟨g, 0, none⟩)] (by rfl) rfl rfl (by simp only [List.map_toArray, List.map_cons, List.map_nil]; rfl) ?_
                 refine (term_calls (w0 := w0) (T := T) (s := s) (n := m + 1) hP3.out.drew (Bel.drew hB3.out) hT).mono ?_
                 rw [← hr.out]
                 rintro e w4 ⟨rfl, hF4⟩
                 refine .inr ⟨_, rfl, ?_⟩
                 refine ⟨rfl, ?_⟩
                 rw [hE4.out]
                 exact ⟨rfl, hF3.out.drew.trans hF4⟩
               | ok r =>
                 obtain ⟨c, j⟩ := r
                 have hE4 := Aside0.mk (show literalP T s n = .ok (⟨3, Term.z, noStr, [a, c]⟩, j) by rw [hE3.out]; unfold pairP; rw [← hr])
                 replace hr := Aside0.mk hr
                 refine start_ (n := 8) (S := fun w' => w'.cell? ⟨w.heap.size + 1, 5, none⟩ = some v3) (ds := [7]) #[false,false,false,false,false,false,false,false] rfl rfl rfl c5 (fun hS_ => ?_)
                 refine with_tabW rLit17.tab rLit17.bits (fun HT_ HW_ => ?_)
                 refine pure_ (i := 0) (N := some 69) (v := ?_) (a' := ?_) #[true,false,false,false,false,false,false,false] rfl rfl (any_of HT_.out (by kernel_rfl)) (fun _ _ _ h => h) (Or.inl ⟨by rfl, ?_⟩) ?_ ?_
                 rotate_left; · (intro w'; go_simp; with_reducible rfl)
                 rotate_left; · (simp only [Act.put, List.setIfInBounds_toArray, List.set_cons_zero, List.set_cons_succ]; rfl)
                 refine take_ (i := 1) (N := some 70) (v := ?_) (a' := ?_) #[true,true,false,false,false,false,false,false] rfl rfl (take_ofW HT_.out HW_.out (by kernel_rfl)) (fun _ _ _ h => h) (Or.inl ⟨by rfl, ?_⟩) hS_ ?_ ?_
                 rotate_left; · (rintro w' s0; go_simp; with_reducible rfl)
                 rotate_left; · (simp only [Act.put, List.setIfInBounds_toArray, List.set_cons_zero, List.set_cons_succ]; rfl)
                 refine pure_ (i := 2) (N := some 71) (v := ?_) (a' := ?_) #[true,true,true,false,false,false,false,false] rfl rfl (any_of HT_.out (by kernel_rfl)) (fun _ _ _ h => h) (Or.inl ⟨by rfl, ?_⟩) ?_ ?_
                 rotate_left; · (intro w'; go_simp; with_reducible rfl)
                 rotate_left; · (simp only [Act.put, List.setIfInBounds_toArray, List.set_cons_zero, List.set_cons_succ]; rfl)
                 refine one_ (i := 3) (N := some 72) #[true,true,true,true,false,false,false,false] rfl rfl (one_of HT_.out (by kernel_rfl)) (by decide) (fun K hK => ?_)
                 refine goesP Try.func66 (by kernel_rfl) rfl #[.pointer (some ⟨g, 0, none⟩)] (by rfl) rfl rfl (by simp only [List.map_toArray, List.map_cons, List.map_nil]; rfl) ?_
                 refine (term_calls (w0 := w0) (T := T) (s := s) (n := m + 1) hP3.out.drew (Bel.drew hB3.out) hT).mono ?_
                 rw [← hr.out]
                 rintro e w4 ⟨⟨v1, rfl, rfl⟩, hP4, hF4⟩
                 refine .inl ⟨_, rfl, ?_⟩
                 refine hK.out _ _ (hF4.cell (p := ⟨w.heap.size + 1, 5, none⟩) hS_ (by simp; omega)) (fun hS_ => ?_)
                 clear hK K
                 refine norm_ (a' := ?_) ?_ ?_
                 rotate_left; · (show Act.put _ (some 72) _ = _; simp only [Act.put, List.setIfInBounds_toArray, List.set_cons_zero, List.set_cons_succ]; rfl)
                 refine one_ (i := 4) (N := some 73) #[true,true,true,true,true,false,false,false] rfl rfl (one_of HT_.out (by kernel_rfl)) (by decide) (fun K hK => ?_)
                 refine value_ (w1 := ?_) (v := ?_) (by rfl) rfl ?_ ?_
                 rotate_left 2; · (go_simp; constructor; rfl; rfl)
                 refine hK.out _ _ (cell_alloc hS_ _) (fun hS_ => ?_)
                 clear hK K
                 refine norm_ (a' := ?_) ?_ ?_
                 rotate_left; · (show Act.put _ (some 73) _ = _; simp only [Act.put, List.setIfInBounds_toArray, List.set_cons_zero, List.set_cons_succ]; rfl)
                 refine one_ (i := 5) (N := some 74) #[true,true,true,true,true,true,false,false] rfl rfl (one_of HT_.out (by kernel_rfl)) (by decide) (fun K hK => ?_)
                 refine Kd.R_append_step kTerm (w0 := w4) (w.heap.size + 2) (by rfl) (.tmp 70) (.tmp 73) 26 25 (.agg #[.string ⟨#[]⟩, .string ⟨#[]⟩, .int .i64 0]) 40 (by rfl) Try.underlying26 info_term (by rfl) (by decide) (by omega) v3 [a] c [.string c.var, .string c.val.sym, .int .i64 c.val.num] (fun q => w.heap.size + 2 ≤ q) (fun _ => False) (by rfl) (by rfl) (kTerm_mkM _ _ _ c) (fun _ hk => hk.elim) (fun _ hk => Nat.le_trans (Nat.le_trans hz3 hF4.size) hk) (hF4.R (Kd.R_drew hR3.out) (fun q hq e => by have : q = g := e; omega)) (Below.refl _ _) (Nat.le_trans hz3 hF4.size) (by simp) ?_
                 intro v5 w5 hR5 hB5 hg5 hat5
                 obtain ⟨gg, cap, rfl, hgg⟩ := Kd.R_form hR5 (by simp)
                 have bk5 : ∀ x o, w3.heap[x]? = some o → x ≠ g → x < w.heap.size + 2 → w5.heap[x]? = some o := fun x o ho hx hxB => (hg5.block x (Nat.lt_of_lt_of_le (blk_lt ho) hF4.size) (fun e => absurd (hR3.out.1 x e.symm) (Nat.not_le.mpr hxB))).trans (hF4.blk (blk_drew ho) hx)
                 have hL5 := Aside0.mk (bk5 _ _ hL3.out (by omega) (by omega))
                 have hD5 := Aside0.mk (bk5 _ _ hD3.out (by omega) (by omega))
                 have hg5g : w5.heap[g]? = w4.heap[g]? := hg5.block g hP4.lt (fun e => absurd (hR3.out.1 g e.symm) (by omega))
                 have hP5 : Aside0 (PAt w0 T s w5 g _) := ⟨by obtain ⟨A, c, hx, rr⟩ := hP4; exact ⟨A, c, hg5g.trans hx, rr⟩⟩
                 have hF5 := Aside0.mk ((hF3.out.drew.trans hF4).step (Fr.of_grown hg5 (S := fun q => w.heap.size + 2 ≤ q) (fun q e => Or.inl (hR3.out.1 q e))) (fun q hq => Or.inr (by omega)))
                 have hz5 : w4.heap.size ≤ w5.heap.size := hg5.size
                 have hR5 := Aside0.mk hR5
                 clear bk5 hg5g hg5 hB5 hat5 hgg
                 refine hK.out _ _ ((blk_cell hL5.out 5).trans rfl) (fun hS_ => ?_)
                 clear hK K
                 refine norm_ (a' := ?_) ?_ ?_
                 rotate_left; · (show Act.put _ (some 74) _ = _; simp only [Act.put, List.setIfInBounds_toArray, List.set_cons_zero, List.set_cons_succ]; rfl)
                 refine pure_ (i := 6) (N := some 75) (v := ?_) (a' := ?_) #[true,true,true,true,true,true,true,false] rfl rfl (any_of HT_.out (by kernel_rfl)) (fun _ _ _ h => h) (Or.inl ⟨by rfl, ?_⟩) ?_ ?_
                 rotate_left; · (intro w'; go_simp; with_reducible rfl)
                 rotate_left; · (simp only [Act.put, List.setIfInBounds_toArray, List.set_cons_zero, List.set_cons_succ]; rfl)
                 refine last_ (i := 7) (N := none) #[true,true,true,true,true,true,true,true] rfl rfl (one_of HT_.out (by kernel_rfl)) (by decide) (fun K hK => ?_)
                 have e5 : w5.cell? ⟨w.heap.size + 1, 5, none⟩ = some v3 := (blk_cell hL5.out 5).trans rfl
                 have f5 : w5.frozen? ⟨w.heap.size + 1, 5, none⟩ = false := blk_frozen hL5.out 5
                 refine skip_ (w1 := ?_) (by rfl) rfl ?_ ?_
                 rotate_left; · (go_simp; rfl)
                 refine hK.out _ _ ?_
                 clear hK K
                 refine wpAnyLast_done (by kernel_rfl) ?_ _
                 have hS5 := LitSt.app hB0.out hgw hg0 hP5.out hF5.out hL5.out hD5.out hR5.out (Nat.le_trans (Nat.le_trans hz3 hF4.size) hz5)
                 refine then_world (fun w' => LitSt w0 T s g w j 3 _ [a, c] w') hS5 (fun w3 hS3 => ?_)
                 replace hS3 := Aside0.mk hS3
                 have hz9 := blk_lt hS3.out.d
                 have e0 : w3.cell? ⟨w.heap.size + 1, 0, none⟩ = some (.int .u8 (⟨3, Term.z, noStr, [a, c]⟩ : Lit).kind) := (blk_cell hS3.out.l 0).trans rfl
                 have e1 : w3.cell? ⟨w.heap.size + 1, 1, none⟩ = some (.string (⟨3, Term.z, noStr, [a, c]⟩ : Lit).who.var) := (blk_cell hS3.out.l 1).trans rfl
                 have e2 : w3.cell? ⟨w.heap.size + 1, 2, none⟩ = some (.string (⟨3, Term.z, noStr, [a, c]⟩ : Lit).who.val.sym) := (blk_cell hS3.out.l 2).trans rfl
                 have e3 : w3.cell? ⟨w.heap.size + 1, 3, none⟩ = some (.int .i64 (⟨3, Term.z, noStr, [a, c]⟩ : Lit).who.val.num) := (blk_cell hS3.out.l 3).trans rfl
                 have e4 : w3.cell? ⟨w.heap.size + 1, 4, none⟩ = some (.string (⟨3, Term.z, noStr, [a, c]⟩ : Lit).pred) := (blk_cell hS3.out.l 4).trans rfl
                 have e5 : w3.cell? ⟨w.heap.size + 1, 5, none⟩ = some (.slice (some ⟨gg, 0, none⟩) 2 cap) := (blk_cell hS3.out.l 5).trans rfl
                 have d0 : w3.cell? ⟨w.heap.size, 0, none⟩ = some (.int .u8 0) := (blk_cell hS3.out.d 0).trans rfl
                 have d1 : w3.cell? ⟨w.heap.size, 1, none⟩ = some (.string ⟨#[]⟩) := (blk_cell hS3.out.d 1).trans rfl
                 have d2 : w3.cell? ⟨w.heap.size, 2, none⟩ = some (.string ⟨#[]⟩) := (blk_cell hS3.out.d 2).trans rfl
                 have d3 : w3.cell? ⟨w.heap.size, 3, none⟩ = some (.int .i64 0) := (blk_cell hS3.out.d 3).trans rfl
                 have d4 : w3.cell? ⟨w.heap.size, 4, none⟩ = some (.string ⟨#[]⟩) := (blk_cell hS3.out.d 4).trans rfl
                 have d5 : w3.cell? ⟨w.heap.size, 5, none⟩ = some (.slice none 0 0) := (blk_cell hS3.out.d 5).trans rfl
                 have f0 := blk_frozen hS3.out.d 0
                 have f1 := blk_frozen hS3.out.d 1
                 have f2 := blk_frozen hS3.out.d 2
                 have f3 := blk_frozen hS3.out.d 3
                 have f4 := blk_frozen hS3.out.d 4
                 have f5 := blk_frozen hS3.out.d 5
                 go_wp2
                 exact lit_end (l := ⟨3, Term.z, noStr, [a, c]⟩) (av := .slice (some ⟨gg, 0, none⟩) 2 cap) rfl rfl hS3.out.d (Kd.R_lower hS3.out.r (by omega)) hS3.out.p hS3.out.f hgw hE4.out
           · have hE3 := Aside0.mk (show literalP T s n = pairP T s 4 a m by rw [hE2.out, hu]; rfl)
             have hlt := isT_lt hu
             replace hu := Aside0.mk hu
             go_wp2_with fail
             refine (is_calls 0 m unlike (by omega) hS3.out.p hS3.out.b hT (by omega)).mono ?_; rintro e w7 ⟨rfl, hd⟩
             rw [hu.out]
             have hS7 := Aside0.mk (hS3.out.drawn hd)
             clear hd hS3
             have e0 : w7.cell? ⟨w.heap.size + 1, 0, none⟩ = some (.int .u8 3) := (blk_cell hS7.out.l 0).trans rfl
             have f0 := blk_frozen hS7.out.l 0
             obtain ⟨A1, c1, p0, p1, p2, q2, hm, _, _⟩ := hS7.out.p.cells
             go_wp2_with fail
             obtain ⟨v3, hv3⟩ : ∃ v3, LitSt w0 T s g w m 3 v3 [a] w7 := ⟨_, hS7.out⟩
             refine wp_world (fun w' => LitSt w0 T s g w (m + 1) 4 v3 [a] w') ((hv3.kind hgw hBz 4).to hgw (m + 1) ((m : Int) + 1) (by omega) (by omega)) (fun w3 hS3 => ?_)
             replace hS3 := Aside0.mk hS3
             clear hS7 e0 f0 p0 p1 p2 q2 hE2 hv3
             have hP3 := Aside0.mk hS3.out.p
             have hB3 := Aside0.mk hS3.out.b
             have hF3 := Aside0.mk hS3.out.f
             have hL3 := Aside0.mk hS3.out.l
             have hD3 := Aside0.mk hS3.out.d
             have hR3 := Aside0.mk hS3.out.r
             have hz3 := hS3.out.z
             have c5 : w3.cell? ⟨w.heap.size + 1, 5, none⟩ = some v3 := (blk_cell hL3.out 5).trans rfl
             obtain ⟨r, hr⟩ : ∃ r, r = termP T s (m + 1) := ⟨_, rfl⟩
             cases r with
             | error p =>
               have hE4 := Aside0.mk (show literalP T s n = .error p by rw [hE3.out]; unfold pairP; rw [← hr])
               replace hr := Aside0.mk hr
               refine start_ (n := 8) (S := fun w' => w'.cell? ⟨w.heap.size + 1, 5, none⟩ = some v3) (ds := [7]) #[false,false,false,false,false,false,false,false] rfl rfl rfl c5 (fun hS_ => ?_)
               refine with_tabW rLit17.tab rLit17.bits (fun HT_ HW_ => ?_)
               refine pure_ (i := 0) (N := some 69) (v := ?_) (a' := ?_) #[true,false,false,false,false,false,false,false] rfl rfl (any_of HT_.out (by kernel_rfl)) (fun _ _ _ h => h) (Or.inl ⟨by rfl, ?_⟩) ?_ ?_
               rotate_left; · (intro w'; go_simp; with_reducible rfl)
               rotate_left; · (simp only [Act.put, List.setIfInBounds_toArray, List.set_cons_zero, List.set_cons_succ]; rfl)
               refine take_ (i := 1) (N := some 70) (v := ?_) (a' := ?_) #[true,true,false,false,false,false,false,false] rfl rfl (take_ofW HT_.out HW_.out (by kernel_rfl)) (fun _ _ _ h => h) (Or.inl ⟨by rfl, ?_⟩) hS_ ?_ ?_
               rotate_left; · (rintro w' s0; go_simp; with_reducible rfl)
               rotate_left; · (simp only [Act.put, List.setIfInBounds_toArray, List.set_cons_zero, List.set_cons_succ]; rfl)
               refine pure_ (i := 2) (N := some 71) (v := ?_) (a' := ?_) #[true,true,true,false,false,false,false,false] rfl rfl (any_of HT_.out (by kernel_rfl)) (fun _ _ _ h => h) (Or.inl ⟨by rfl, ?_⟩) ?_ ?_
               rotate_left; · (intro w'; go_simp; with_reducible rfl)
               rotate_left; · (simp only [Act.put, List.setIfInBounds_toArray, List.set_cons_zero, List.set_cons_succ]; rfl)
               refine one_ (i := 3) (N := some 72) #[true,true,true,true,false,false,false,false] rfl rfl (one_of HT_.out (by kernel_rfl)) (by decide) (fun K hK => ?_)
               refine goesP Try.func66 (by kernel_rfl) rfl #[.pointer (some ⟨g, 0, none⟩)] (by rfl) rfl rfl (by simp only [List.map_toArray, List.map_cons, List.map_nil]; rfl) ?_
               refine (term_calls (w0 := w0) (T := T) (s := s) (n := m + 1) hP3.out.drew (Bel.drew hB3.out) hT).mono ?_
               rw [← hr.out]
               rintro e w4 ⟨rfl, hF4⟩
               refine .inr ⟨_, rfl, ?_⟩
               refine ⟨rfl, ?_⟩
               rw [hE4.out]
               exact ⟨rfl, hF3.out.drew.trans hF4⟩
             | ok r =>
               obtain ⟨c, j⟩ := r
               have hE4 := Aside0.mk (show literalP T s n = .ok (⟨4, Term.z, noStr, [a, c]⟩, j) by rw [hE3.out]; unfold pairP; rw [← hr])
               replace hr := Aside0.mk hr
               refine start_ (n := 8) (S := fun w' => w'.cell? ⟨w.heap.size + 1, 5, none⟩ = some v3) (ds := [7]) #[false,false,false,false,false,false,false,false] rfl rfl rfl c5 (fun hS_ => ?_)
               refine with_tabW rLit17.tab rLit17.bits (fun HT_ HW_ => ?_)
               refine pure_ (i := 0) (N := some 69) (v := ?_) (a' := ?_) #[true,false,false,false,false,false,false,false] rfl rfl (any_of HT_.out (by kernel_rfl)) (fun _ _ _ h => h) (Or.inl ⟨by rfl, ?_⟩) ?_ ?_
               rotate_left; · (intro w'; go_simp; with_reducible rfl)
               rotate_left; · (simp only [Act.put, List.setIfInBounds_toArray, List.set_cons_zero, List.set_cons_succ]; rfl)
               refine take_ (i := 1) (N := some 70) (v := ?_) (a' := ?_) #[true,true,false,false,false,false,false,false] rfl rfl (take_ofW HT_.out HW_.out (by kernel_rfl)) (fun _ _ _ h => h) (Or.inl ⟨by rfl, ?_⟩) hS_ ?_ ?_
               rotate_left; · (rintro w' s0; go_simp; with_reducible rfl)
               rotate_left; · (simp only [Act.put, List.setIfInBounds_toArray, List.set_cons_zero, List.set_cons_succ]; rfl)
               refine pure_ (i := 2) (N := some 71) (v := ?_) (a' := ?_) #[true,true,true,false,false,false,false,false] rfl rfl (any_of HT_.out (by kernel_rfl)) (fun _ _ _ h => h) (Or.inl ⟨by rfl, ?_⟩) ?_ ?_
               rotate_left; · (intro w'; go_simp; with_reducible rfl)
               rotate_left; · (simp only [Act.put, List.setIfInBounds_toArray, List.set_cons_zero, List.set_cons_succ]; rfl)
               refine one_ (i := 3) (N := some 72) #[true,true,true,true,false,false,false,false] rfl rfl (one_of HT_.out (by kernel_rfl)) (by decide) (fun K hK => ?_)
               refine goesP Try.func66 (by kernel_rfl) rfl #[.pointer (some ⟨g, 0, none⟩)] (by rfl) rfl rfl (by simp only [List.map_toArray, List.map_cons, List.map_nil]; rfl) ?_
               refine (term_calls (w0 := w0) (T := T) (s := s) (n := m + 1) hP3.out.drew (Bel.drew hB3.out) hT).mono ?_
               rw [← hr.out]
               rintro e w4 ⟨⟨v1, rfl, rfl⟩, hP4, hF4⟩
               refine .inl ⟨_, rfl, ?_⟩
               refine hK.out _ _ (hF4.cell (p := ⟨w.heap.size + 1, 5, none⟩) hS_ (by simp; omega)) (fun hS_ => ?_)
               clear hK K
               refine norm_ (a' := ?_) ?_ ?_
               rotate_left; · (show Act.put _ (some 72) _ = _; simp only [Act.put, List.setIfInBounds_toArray, List.set_cons_zero, List.set_cons_succ]; rfl)
               refine one_ (i := 4) (N := some 73) #[true,true,true,true,true,false,false,false] rfl rfl (one_of HT_.out (by kernel_rfl)) (by decide) (fun K hK => ?_)
               refine value_ (w1 := ?_) (v := ?_) (by rfl) rfl ?_ ?_
               rotate_left 2; · (go_simp; constructor; rfl; rfl)
               refine hK.out _ _ (cell_alloc hS_ _) (fun hS_ => ?_)
               clear hK K
               refine norm_ (a' := ?_) ?_ ?_
               rotate_left; · (show Act.put _ (some 73) _ = _; simp only [Act.put, List.setIfInBounds_toArray, List.set_cons_zero, List.set_cons_succ]; rfl)
               refine one_ (i := 5) (N := some 74) #[true,true,true,true,true,true,false,false] rfl rfl (one_of HT_.out (by kernel_rfl)) (by decide) (fun K hK => ?_)
               refine Kd.R_append_step kTerm (w0 := w4) (w.heap.size + 2) (by rfl) (.tmp 70) (.tmp 73) 26 25 (.agg #[.string ⟨#[]⟩, .string ⟨#[]⟩, .int .i64 0]) 40 (by rfl) Try.underlying26 info_term (by rfl) (by decide) (by omega) v3 [a] c [.string c.var, .string c.val.sym, .int .i64 c.val.num] (fun q => w.heap.size + 2 ≤ q) (fun _ => False) (by rfl) (by rfl) (kTerm_mkM _ _ _ c) (fun _ hk => hk.elim) (fun _ hk => Nat.le_trans (Nat.le_trans hz3 hF4.size) hk) (hF4.R (Kd.R_drew hR3.out) (fun q hq e => by have : q = g := e; omega)) (Below.refl _ _) (Nat.le_trans hz3 hF4.size) (by simp) ?_
               intro v5 w5 hR5 hB5 hg5 hat5
               obtain ⟨gg, cap, rfl, hgg⟩ := Kd.R_form hR5 (by simp)
               have bk5 : ∀ x o, w3.heap[x]? = some o → x ≠ g → x < w.heap.size + 2 → w5.heap[x]? = some o := fun x o ho hx hxB => (hg5.block x (Nat.lt_of_lt_of_le (blk_lt ho) hF4.size) (fun e => absurd (hR3.out.1 x e.symm) (Nat.not_le.mpr hxB))).trans (hF4.blk (blk_drew ho) hx)
               have hL5 := Aside0.mk (bk5 _ _ hL3.out (by omega) (by omega))
               have hD5 := Aside0.mk (bk5 _ _ hD3.out (by omega) (by omega))
               have hg5g : w5.heap[g]? = w4.heap[g]? := hg5.block g hP4.lt (fun e => absurd (hR3.out.1 g e.symm) (by omega))
               have hP5 : Aside0 (PAt w0 T s w5 g _) := ⟨by obtain ⟨A, c, hx, rr⟩ := hP4; exact ⟨A, c, hg5g.trans hx, rr⟩⟩
               have hF5 := Aside0.mk ((hF3.out.drew.trans hF4).step (Fr.of_grown hg5 (S := fun q => w.heap.size + 2 ≤ q) (fun q e => Or.inl (hR3.out.1 q e))) (fun q hq => Or.inr (by omega)))
               have hz5 : w4.heap.size ≤ w5.heap.size := hg5.size
               have hR5 := Aside0.mk hR5
               clear bk5 hg5g hg5 hB5 hat5 hgg
               refine hK.out _ _ ((blk_cell hL5.out 5).trans rfl) (fun hS_ => ?_)
               clear hK K
               refine norm_ (a' := ?_) ?_ ?_
               rotate_left; · (show Act.put _ (some 74) _ = _; simp only [Act.put, List.setIfInBounds_toArray, List.set_cons_zero, List.set_cons_succ]; rfl)
               refine pure_ (i := 6) (N := some 75) (v := ?_) (a' := ?_) #[true,true,true,true,true,true,true,false] rfl rfl (any_of HT_.out (by kernel_rfl)) (fun _ _ _ h => h) (Or.inl ⟨by rfl, ?_⟩) ?_ ?_
               rotate_left; · (intro w'; go_simp; with_reducible rfl)
               rotate_left; · (simp only [Act.put, List.setIfInBounds_toArray, List.set_cons_zero, List.set_cons_succ]; rfl)
               refine last_ (i := 7) (N := none) #[true,true,true,true,true,true,true,true] rfl rfl (one_of HT_.out (by kernel_rfl)) (by decide) (fun K hK => ?_)
               have e5 : w5.cell? ⟨w.heap.size + 1, 5, none⟩ = some v3 := (blk_cell hL5.out 5).trans rfl
               have f5 : w5.frozen? ⟨w.heap.size + 1, 5, none⟩ = false := blk_frozen hL5.out 5
               refine skip_ (w1 := ?_) (by rfl) rfl ?_ ?_
               rotate_left; · (go_simp; rfl)
               refine hK.out _ _ ?_
               clear hK K
               refine wpAnyLast_done (by kernel_rfl) ?_ _
               have hS5 := LitSt.app hB0.out hgw hg0 hP5.out hF5.out hL5.out hD5.out hR5.out (Nat.le_trans (Nat.le_trans hz3 hF4.size) hz5)
               refine then_world (fun w' => LitSt w0 T s g w j 4 _ [a, c] w') hS5 (fun w3 hS3 => ?_)
               replace hS3 := Aside0.mk hS3
               have hz9 := blk_lt hS3.out.d
               have e0 : w3.cell? ⟨w.heap.size + 1, 0, none⟩ = some (.int .u8 (⟨4, Term.z, noStr, [a, c]⟩ : Lit).kind) := (blk_cell hS3.out.l 0).trans rfl
               have e1 : w3.cell? ⟨w.heap.size + 1, 1, none⟩ = some (.string (⟨4, Term.z, noStr, [a, c]⟩ : Lit).who.var) := (blk_cell hS3.out.l 1).trans rfl
               have e2 : w3.cell? ⟨w.heap.size + 1, 2, none⟩ = some (.string (⟨4, Term.z, noStr, [a, c]⟩ : Lit).who.val.sym) := (blk_cell hS3.out.l 2).trans rfl
               have e3 : w3.cell? ⟨w.heap.size + 1, 3, none⟩ = some (.int .i64 (⟨4, Term.z, noStr, [a, c]⟩ : Lit).who.val.num) := (blk_cell hS3.out.l 3).trans rfl
               have e4 : w3.cell? ⟨w.heap.size + 1, 4, none⟩ = some (.string (⟨4, Term.z, noStr, [a, c]⟩ : Lit).pred) := (blk_cell hS3.out.l 4).trans rfl
               have e5 : w3.cell? ⟨w.heap.size + 1, 5, none⟩ = some (.slice (some ⟨gg, 0, none⟩) 2 cap) := (blk_cell hS3.out.l 5).trans rfl
               have d0 : w3.cell? ⟨w.heap.size, 0, none⟩ = some (.int .u8 0) := (blk_cell hS3.out.d 0).trans rfl
               have d1 : w3.cell? ⟨w.heap.size, 1, none⟩ = some (.string ⟨#[]⟩) := (blk_cell hS3.out.d 1).trans rfl
               have d2 : w3.cell? ⟨w.heap.size, 2, none⟩ = some (.string ⟨#[]⟩) := (blk_cell hS3.out.d 2).trans rfl
               have d3 : w3.cell? ⟨w.heap.size, 3, none⟩ = some (.int .i64 0) := (blk_cell hS3.out.d 3).trans rfl
               have d4 : w3.cell? ⟨w.heap.size, 4, none⟩ = some (.string ⟨#[]⟩) := (blk_cell hS3.out.d 4).trans rfl
               have d5 : w3.cell? ⟨w.heap.size, 5, none⟩ = some (.slice none 0 0) := (blk_cell hS3.out.d 5).trans rfl
               have f0 := blk_frozen hS3.out.d 0
               have f1 := blk_frozen hS3.out.d 1
               have f2 := blk_frozen hS3.out.d 2
               have f3 := blk_frozen hS3.out.d 3
               have f4 := blk_frozen hS3.out.d 4
               have f5 := blk_frozen hS3.out.d 5
               go_wp2
               exact lit_end (l := ⟨4, Term.z, noStr, [a, c]⟩) (av := .slice (some ⟨gg, 0, none⟩) 2 cap) rfl rfl hS3.out.d (Kd.R_lower hS3.out.r (by omega)) hS3.out.p hS3.out.f hgw hE4.out
       · replace hb1 := Aside0.mk hb1
         go_enter Try.func36, Try.ntmps36
         go_wp2_with fail
         refine (is_calls 0 n nots (by omega) hS0.out.p hS0.out.b hT (by omega)).mono ?_; rintro e w1 ⟨rfl, hd⟩
         rw [hn.out]
         have hS1 := Aside0.mk (hS0.out.drawn hd)
         clear hd hS0
         go_wp2_with fail
         refine (kind_calls hS1.out.p hS1.out.b).mono ?_; rintro e w2 ⟨rfl, hd⟩
         have hS2 := Aside0.mk (hS1.out.drawn hd)
         clear hd hS1
         go_wp2_with fail
         refine (is_calls 1 (n + 1) less (by omega) hS2.out.p hS2.out.b hT (by omega)).mono ?_; rintro e w3 ⟨rfl, hd⟩
         rw [hb1.out]
         have hS3 := Aside0.mk (hS2.out.drawn hd)
         clear hd hS2
         have e0 : w3.cell? ⟨w.heap.size + 1, 0, none⟩ = some (.int .u8 1) := (blk_cell hS3.out.l 0).trans rfl
         have f0 := blk_frozen hS3.out.l 0
         go_wp2_with fail
         obtain ⟨v3, hv3⟩ : ∃ v3, v3 = Value.slice none 0 0 := ⟨_, rfl⟩
         refine wp_world (fun w' => LitSt w0 T s g w n 3 v3 [] w') (by rw [hv3]; exact hS3.out.kind hgw hBz 3) (fun w3 hS3 => ?_)
         replace hS3 := Aside0.mk hS3
         clear e0 f0 hv3
         have hP3 := Aside0.mk hS3.out.p
         have hB3 := Aside0.mk hS3.out.b
         have hF3 := Aside0.mk hS3.out.f
         have hL3 := Aside0.mk hS3.out.l
         have hD3 := Aside0.mk hS3.out.d
         have hR3 := Aside0.mk hS3.out.r
         have hz3 := hS3.out.z
         have c5 : w3.cell? ⟨w.heap.size + 1, 5, none⟩ = some v3 := (blk_cell hL3.out 5).trans rfl
         obtain ⟨r, hr⟩ : ∃ r, r = termP T s n := ⟨_, rfl⟩
         cases r with
         | error p =>
           have hE2 := Aside0.mk (show literalP T s n = .error p by rw [hE.out, ← hr])
           replace hr := Aside0.mk hr
           refine start_ (n := 8) (S := fun w' => w'.cell? ⟨w.heap.size + 1, 5, none⟩ = some v3) (ds := [7]) #[false,false,false,false,false,false,false,false] rfl rfl rfl c5 (fun hS_ => ?_)
           refine with_tabW rLit11.tab rLit11.bits (fun HT_ HW_ => ?_)
           refine pure_ (i := 0) (N := some 47) (v := ?_) (a' := ?_) #[true,false,false,false,false,false,false,false] rfl rfl (any_of HT_.out (by kernel_rfl)) (fun _ _ _ h => h) (Or.inl ⟨by rfl, ?_⟩) ?_ ?_
           rotate_left; · (intro w'; go_simp; with_reducible rfl)
           rotate_left; · (simp only [Act.put, List.setIfInBounds_toArray, List.set_cons_zero, List.set_cons_succ]; rfl)
           refine take_ (i := 1) (N := some 48) (v := ?_) (a' := ?_) #[true,true,false,false,false,false,false,false] rfl rfl (take_ofW HT_.out HW_.out (by kernel_rfl)) (fun _ _ _ h => h) (Or.inl ⟨by rfl, ?_⟩) hS_ ?_ ?_
           rotate_left; · (rintro w' s0; go_simp; with_reducible rfl)
           rotate_left; · (simp only [Act.put, List.setIfInBounds_toArray, List.set_cons_zero, List.set_cons_succ]; rfl)
           refine pure_ (i := 2) (N := some 49) (v := ?_) (a' := ?_) #[true,true,true,false,false,false,false,false] rfl rfl (any_of HT_.out (by kernel_rfl)) (fun _ _ _ h => h) (Or.inl ⟨by rfl, ?_⟩) ?_ ?_
           rotate_left; · (intro w'; go_simp; with_reducible rfl)
           rotate_left; · (simp only [Act.put, List.setIfInBounds_toArray, List.set_cons_zero, List.set_cons_succ]; rfl)
           refine one_ (i := 3) (N := some 50) #[true,true,true,true,false,false,false,false] rfl rfl (one_of HT_.out (by kernel_rfl)) (by decide) (fun K hK => ?_)
           refine goesP Try.func66 (by kernel_rfl) rfl #[.pointer (some ⟨g, 0, none⟩)] (by rfl) rfl rfl (by simp only [List.map_toArray, List.map_cons, List.map_nil]; rfl) ?_
           refine (term_calls (w0 := w0) (T := T) (s := s) (n := n) hP3.out.drew (Bel.drew hB3.out) hT).mono ?_
           rw [← hr.out]
           rintro e w4 ⟨rfl, hF4⟩
           refine .inr ⟨_, rfl, ?_⟩
           refine ⟨rfl, ?_⟩
           rw [hE2.out]
           exact ⟨rfl, hF3.out.drew.trans hF4⟩
         | ok r =>
           obtain ⟨a, m⟩ := r
           have hE2 := Aside0.mk (show literalP T s n = if isT T s m unlike then pairP T s 4 a m else if isT T s m less then pairP T s 3 a m else .error (posOf T s m, 6) by rw [hE.out, ← hr])
           replace hr := Aside0.mk hr
           refine start_ (n := 8) (S := fun w' => w'.cell? ⟨w.heap.size + 1, 5, none⟩ = some v3) (ds := [7]) #[false,false,false,false,false,false,false,false] rfl rfl rfl c5 (fun hS_ => ?_)
           refine with_tabW rLit11.tab rLit11.bits (fun HT_ HW_ => ?_)
           refine pure_ (i := 0) (N := some 47) (v := ?_) (a' := ?_) #[true,false,false,false,false,false,false,false] rfl rfl (any_of HT_.out (by kernel_rfl)) (fun _ _ _ h => h) (Or.inl ⟨by rfl, ?_⟩) ?_ ?_
           rotate_left; · (intro w'; go_simp; with_reducible rfl)
           rotate_left; · (simp only [Act.put, List.setIfInBounds_toArray, List.set_cons_zero, List.set_cons_succ]; rfl)
           refine take_ (i := 1) (N := some 48) (v := ?_) (a' := ?_) #[true,true,false,false,false,false,false,false] rfl rfl (take_ofW HT_.out HW_.out (by kernel_rfl)) (fun _ _ _ h => h) (Or.inl ⟨by rfl, ?_⟩) hS_ ?_ ?_
           rotate_left; · (rintro w' s0; go_simp; with_reducible rfl)
           rotate_left; · (simp only [Act.put, List.setIfInBounds_toArray, List.set_cons_zero, List.set_cons_succ]; rfl)
           refine pure_ (i := 2) (N := some 49) (v := ?_) (a' := ?_) #[true,true,true,false,false,false,false,false] rfl rfl (any_of HT_.out (by kernel_rfl)) (fun _ _ _ h => h) (Or.inl ⟨by rfl, ?_⟩) ?_ ?_
           rotate_left; · (intro w'; go_simp; with_reducible rfl)
           rotate_left; · (simp only [Act.put, List.setIfInBounds_toArray, List.set_cons_zero, List.set_cons_succ]; rfl)
           refine one_ (i := 3) (N := some 50) #[true,true,true,true,false,false,false,false] rfl rfl (one_of HT_.out (by kernel_rfl)) (by decide) (fun K hK => ?_)
           refine goesP Try.func66 (by kernel_rfl) rfl #[.pointer (some ⟨g, 0, none⟩)] (by rfl) rfl rfl (by simp only [List.map_toArray, List.map_cons, List.map_nil]; rfl) ?_
           refine (term_calls (w0 := w0) (T := T) (s := s) (n := n) hP3.out.drew (Bel.drew hB3.out) hT).mono ?_
           rw [← hr.out]
           rintro e w4 ⟨⟨v1, rfl, rfl⟩, hP4, hF4⟩
           refine .inl ⟨_, rfl, ?_⟩
           refine hK.out _ _ (hF4.cell (p := ⟨w.heap.size + 1, 5, none⟩) hS_ (by simp; omega)) (fun hS_ => ?_)
           clear hK K
           refine norm_ (a' := ?_) ?_ ?_
           rotate_left; · (show Act.put _ (some 50) _ = _; simp only [Act.put, List.setIfInBounds_toArray, List.set_cons_zero, List.set_cons_succ]; rfl)
           refine one_ (i := 4) (N := some 51) #[true,true,true,true,true,false,false,false] rfl rfl (one_of HT_.out (by kernel_rfl)) (by decide) (fun K hK => ?_)
           refine value_ (w1 := ?_) (v := ?_) (by rfl) rfl ?_ ?_
           rotate_left 2; · (go_simp; constructor; rfl; rfl)
           refine hK.out _ _ (cell_alloc hS_ _) (fun hS_ => ?_)
           clear hK K
           refine norm_ (a' := ?_) ?_ ?_
           rotate_left; · (show Act.put _ (some 51) _ = _; simp only [Act.put, List.setIfInBounds_toArray, List.set_cons_zero, List.set_cons_succ]; rfl)
           refine one_ (i := 5) (N := some 52) #[true,true,true,true,true,true,false,false] rfl rfl (one_of HT_.out (by kernel_rfl)) (by decide) (fun K hK => ?_)
           refine Kd.R_append_step kTerm (w0 := w4) (w.heap.size + 2) (by rfl) (.tmp 48) (.tmp 51) 26 25 (.agg #[.string ⟨#[]⟩, .string ⟨#[]⟩, .int .i64 0]) 40 (by rfl) Try.underlying26 info_term (by rfl) (by decide) (by omega) v3 [] a [.string a.var, .string a.val.sym, .int .i64 a.val.num] (fun q => w.heap.size + 2 ≤ q) (fun _ => False) (by rfl) (by rfl) (kTerm_mkM _ _ _ a) (fun _ hk => hk.elim) (fun _ hk => Nat.le_trans (Nat.le_trans hz3 hF4.size) hk) (hF4.R (Kd.R_drew hR3.out) (fun q hq e => by have : q = g := e; omega)) (Below.refl _ _) (Nat.le_trans hz3 hF4.size) (by simp) ?_
           intro v5 w5 hR5 hB5 hg5 hat5
           obtain ⟨gg, cap, rfl, hgg⟩ := Kd.R_form hR5 (by simp)
           have bk5 : ∀ x o, w3.heap[x]? = some o → x ≠ g → x < w.heap.size + 2 → w5.heap[x]? = some o := fun x o ho hx hxB => (hg5.block x (Nat.lt_of_lt_of_le (blk_lt ho) hF4.size) (fun e => absurd (hR3.out.1 x e.symm) (Nat.not_le.mpr hxB))).trans (hF4.blk (blk_drew ho) hx)
           have hL5 := Aside0.mk (bk5 _ _ hL3.out (by omega) (by omega))
           have hD5 := Aside0.mk (bk5 _ _ hD3.out (by omega) (by omega))
           have hg5g : w5.heap[g]? = w4.heap[g]? := hg5.block g hP4.lt (fun e => absurd (hR3.out.1 g e.symm) (by omega))
           have hP5 : Aside0 (PAt w0 T s w5 g _) := ⟨by obtain ⟨A, c, hx, rr⟩ := hP4; exact ⟨A, c, hg5g.trans hx, rr⟩⟩
           have hF5 := Aside0.mk ((hF3.out.drew.trans hF4).step (Fr.of_grown hg5 (S := fun q => w.heap.size + 2 ≤ q) (fun q e => Or.inl (hR3.out.1 q e))) (fun q hq => Or.inr (by omega)))
           have hz5 : w4.heap.size ≤ w5.heap.size := hg5.size
           have hR5 := Aside0.mk hR5
           clear bk5 hg5g hg5 hB5 hat5 hgg
           refine hK.out _ _ ((blk_cell hL5.out 5).trans rfl) (fun hS_ => ?_)
           clear hK K
           refine norm_ (a' := ?_) ?_ ?_
           rotate_left; · (show Act.put _ (some 52) _ = _; simp only [Act.put, List.setIfInBounds_toArray, List.set_cons_zero, List.set_cons_succ]; rfl)
           refine pure_ (i := 6) (N := some 53) (v := ?_) (a' := ?_) #[true,true,true,true,true,true,true,false] rfl rfl (any_of HT_.out (by kernel_rfl)) (fun _ _ _ h => h) (Or.inl ⟨by rfl, ?_⟩) ?_ ?_
           rotate_left; · (intro w'; go_simp; with_reducible rfl)
           rotate_left; · (simp only [Act.put, List.setIfInBounds_toArray, List.set_cons_zero, List.set_cons_succ]; rfl)
           refine last_ (i := 7) (N := none) #[true,true,true,true,true,true,true,true] rfl rfl (one_of HT_.out (by kernel_rfl)) (by decide) (fun K hK => ?_)
           have e5 : w5.cell? ⟨w.heap.size + 1, 5, none⟩ = some v3 := (blk_cell hL5.out 5).trans rfl
           have f5 : w5.frozen? ⟨w.heap.size + 1, 5, none⟩ = false := blk_frozen hL5.out 5
           refine skip_ (w1 := ?_) (by rfl) rfl ?_ ?_
           rotate_left; · (go_simp; rfl)
           refine hK.out _ _ ?_
           clear hK K
           refine wpAnyLast_done (by kernel_rfl) ?_ _
           have hS5 := LitSt.app hB0.out hgw hg0 hP5.out hF5.out hL5.out hD5.out hR5.out (Nat.le_trans (Nat.le_trans hz3 hF4.size) hz5)
           refine then_world (fun w' => LitSt w0 T s g w m 3 _ [a] w') hS5 (fun w3 hS3 => ?_)
           replace hS3 := Aside0.mk hS3
           have hmx := hS3.out.p.max
           clear hP3 hB3 hF3 hL3 hD3 hR3 hr hP4 hF4 hP5 hF5 hL5 hD5 hR5 hS_ HT_ HW_ c5
           skip
           cases hu : isT T s m unlike
           · cases hl : isT T s m less
             · have hE3 := Aside0.mk (show literalP T s n = .error (posOf T s m, 6) by rw [hE2.out, hu, hl]; rfl)
               replace hu := Aside0.mk hu
               replace hl := Aside0.mk hl
               go_wp2_with fail
               refine (is_calls 0 m unlike (by omega) hS3.out.p hS3.out.b hT (by omega)).mono ?_; rintro e w7 ⟨rfl, hd⟩
               rw [hu.out]
               have hS7 := Aside0.mk (hS3.out.drawn hd)
               clear hd hS3
               go_wp2_with fail
               refine (is_calls 0 m less (by omega) hS7.out.p hS7.out.b hT (by omega)).mono ?_; rintro e w8 ⟨rfl, hd⟩
               rw [hl.out]
               have hS8 := Aside0.mk (hS7.out.drawn hd)
               clear hd hS7
               go_wp2_with fail
               refine (fail_calls 6 hS8.out.p hS8.out.b).mono ?_; rintro e w9 ⟨rfl, hd⟩
               go_wp2
               refine ⟨rfl, ?_⟩
               rw [hE3.out]
               exact ⟨rfl, hS8.out.f.drawn hd⟩
             · have hE3 := Aside0.mk (show literalP T s n = pairP T s 3 a m by rw [hE2.out, hu, hl]; rfl)
               have hlt := isT_lt hl
               replace hu := Aside0.mk hu
               replace hl := Aside0.mk hl
               go_wp2_with fail
               refine (is_calls 0 m unlike (by omega) hS3.out.p hS3.out.b hT (by omega)).mono ?_; rintro e w7 ⟨rfl, hd⟩
               rw [hu.out]
               have hS7 := Aside0.mk (hS3.out.drawn hd)
               clear hd hS3
               go_wp2_with fail
               refine (is_calls 0 m less (by omega) hS7.out.p hS7.out.b hT (by omega)).mono ?_; rintro e w8 ⟨rfl, hd⟩
               rw [hl.out]
               have hS8 := Aside0.mk (hS7.out.drawn hd)
               clear hd hS7
               have e0 : w8.cell? ⟨w.heap.size + 1, 0, none⟩ = some (.int .u8 3) := (blk_cell hS8.out.l 0).trans rfl
               have f0 := blk_frozen hS8.out.l 0
               obtain ⟨A1, c1, p0, p1, p2, q2, hm, _, _⟩ := hS8.out.p.cells
               go_wp2_with fail
               obtain ⟨v3, hv3⟩ : ∃ v3, LitSt w0 T s g w m 3 v3 [a] w8 := ⟨_, hS8.out⟩
               refine wp_world (fun w' => LitSt w0 T s g w (m + 1) 3 v3 [a] w') (hv3.to hgw (m + 1) ((m : Int) + 1) (by omega) (by omega)) (fun w3 hS3 => ?_)
               replace hS3 := Aside0.mk hS3
               clear hS8 e0 f0 p0 p1 p2 q2 hE2 hv3
               have hP3 := Aside0.mk hS3.out.p
               have hB3 := Aside0.mk hS3.out.b
               have hF3 := Aside0.mk hS3.out.f
               have hL3 := Aside0.mk hS3.out.l
               have hD3 := Aside0.mk hS3.out.d
               have hR3 := Aside0.mk hS3.out.r
               have hz3 := hS3.out.z
               have c5 : w3.cell? ⟨w.heap.size + 1, 5, none⟩ = some v3 := (blk_cell hL3.out 5).trans rfl
               obtain ⟨r, hr⟩ : ∃ r, r = termP T s (m + 1) := ⟨_, rfl⟩
               cases r with
               | error p =>
                 have hE4 := Aside0.mk (show literalP T s n = .error p by rw [hE3.out]; unfold pairP; rw [← hr])
                 replace hr := Aside0.mk hr
                 refine start_ (n := 8) (S := fun w' => w'.cell? ⟨w.heap.size + 1, 5, none⟩ = some v3) (ds := [7]) #[false,false,false,false,false,false,false,false] rfl rfl rfl c5 (fun hS_ => ?_)
                 refine with_tabW rLit17.tab rLit17.bits (fun HT_ HW_ => ?_)
                 refine pure_ (i := 0) (N := some 69) (v := ?_) (a' := ?_) #[true,false,false,false,false,false,false,false] rfl rfl (any_of HT_.out (by kernel_rfl)) (fun _ _ _ h => h) (Or.inl ⟨by rfl, ?_⟩) ?_ ?_
                 rotate_left; · (intro w'; go_simp; with_reducible rfl)
                 rotate_left; · (simp only [Act.put, List.setIfInBounds_toArray, List.set_cons_zero, List.set_cons_succ]; rfl)
                 refine take_ (i := 1) (N := some 70) (v := ?_) (a' := ?_) #[true,true,false,false,false,false,false,false] rfl rfl (take_ofW HT_.out HW_.out (by kernel_rfl)) (fun _ _ _ h => h) (Or.inl ⟨by rfl, ?_⟩) hS_ ?_ ?_
                 rotate_left; · (rintro w' s0; go_simp; with_reducible rfl)
                 rotate_left; · (simp only [Act.put, List.setIfInBounds_toArray, List.set_cons_zero, List.set_cons_succ]; rfl)
                 refine pure_ (i := 2) (N := some 71) (v := ?_) (a' := ?_) #[true,true,true,false,false,false,false,false] rfl rfl (any_of HT_.out (by kernel_rfl)) (fun _ _ _ h => h) (Or.inl ⟨by rfl, ?_⟩) ?_ ?_
                 rotate_left; · (intro w'; go_simp; with_reducible rfl)
                 rotate_left; · (simp only [Act.put, List.setIfInBounds_toArray, List.set_cons_zero, List.set_cons_succ]; rfl)
                 refine one_ (i := 3) (N := some 72) #[true,true,true,true,false,false,false,false] rfl rfl (one_of HT_.out (by kernel_rfl)) (by decide) (fun K hK => ?_)
                 refine goesP Try.func66 (by kernel_rfl) rfl #[.pointer (some ⟨g, 0, none⟩)] (by rfl) rfl rfl (by simp only [List.map_toArray, List.map_cons, List.map_nil]; rfl) ?_
                 refine (term_calls (w0 := w0) (T := T) (s := s) (n := m + 1) hP3.out.drew (Bel.drew hB3.out) hT).mono ?_
                 rw [← hr.out]
                 rintro e w4 ⟨rfl, hF4⟩
                 refine .inr ⟨_, rfl, ?_⟩
                 refine ⟨rfl, ?_⟩
                 rw [hE4.out]
                 exact ⟨rfl, hF3.out.drew.trans hF4⟩
               | ok r =>
                 obtain ⟨c, j⟩ := r
                 have hE4 := Aside0.mk (show literalP T s n = .ok (⟨3, Term.z, noStr, [a, c]⟩, j) by rw [hE3.out]; unfold pairP; rw [← hr])
                 replace hr := Aside0.mk hr
                 refine start_ (n := 8) (S := fun w' => w'.cell? ⟨w.heap.size + 1, 5, none⟩ = some v3) (ds := [7]) #[false,false,false,false,false,false,false,false] rfl rfl rfl c5 (fun hS_ => ?_)
                 refine with_tabW rLit17.tab rLit17.bits (fun HT_ HW_ => ?_)
                 refine pure_ (i := 0) (N := some 69) (v := ?_) (a' := ?_) #[true,false,false,false,false,false,false,false] rfl rfl (any_of HT_.out (by kernel_rfl)) (fun _ _ _ h => h) (Or.inl ⟨by rfl, ?_⟩) ?_ ?_
                 rotate_left; · (intro w'; go_simp; with_reducible rfl)
                 rotate_left; · (simp only [Act.put, List.setIfInBounds_toArray, List.set_cons_zero, List.set_cons_succ]; rfl)
                 refine take_ (i := 1) (N := some 70) (v := ?_) (a' := ?_) #[true,true,false,false,false,false,false,false] rfl rfl (take_ofW HT_.out HW_.out (by kernel_rfl)) (fun _ _ _ h => h) (Or.inl ⟨by rfl, ?_⟩) hS_ ?_ ?_
                 rotate_left; · (rintro w' s0; go_simp; with_reducible rfl)
                 rotate_left; · (simp only [Act.put, List.setIfInBounds_toArray, List.set_cons_zero, List.set_cons_succ]; rfl)
                 refine pure_ (i := 2) (N := some 71) (v := ?_) (a' := ?_) #[true,true,true,false,false,false,false,false] rfl rfl (any_of HT_.out (by kernel_rfl)) (fun _ _ _ h => h) (Or.inl ⟨by rfl, ?_⟩) ?_ ?_
                 rotate_left; · (intro w'; go_simp; with_reducible rfl)
                 rotate_left; · (simp only [Act.put, List.setIfInBounds_toArray, List.set_cons_zero, List.set_cons_succ]; rfl)
                 refine one_ (i := 3) (N := some 72) #[true,true,true,true,false,false,false,false] rfl rfl (one_of HT_.out (by kernel_rfl)) (by decide) (fun K hK => ?_)
                 refine goesP Try.func66 (by kernel_rfl) rfl #[.pointer (some ⟨g, 0, none⟩)] (by rfl) rfl rfl (by simp only [List.map_toArray, List.map_cons, List.map_nil]; rfl) ?_
                 refine (term_calls (w0 := w0) (T := T) (s := s) (n := m + 1) hP3.out.drew (Bel.drew hB3.out) hT).mono ?_
                 rw [← hr.out]
                 rintro e w4 ⟨⟨v1, rfl, rfl⟩, hP4, hF4⟩
                 refine .inl ⟨_, rfl, ?_⟩
                 refine hK.out _ _ (hF4.cell (p := ⟨w.heap.size + 1, 5, none⟩) hS_ (by simp; omega)) (fun hS_ => ?_)
                 clear hK K
                 refine norm_ (a' := ?_) ?_ ?_
                 rotate_left; · (show Act.put _ (some 72) _ = _; simp only [Act.put, List.setIfInBounds_toArray, List.set_cons_zero, List.set_cons_succ]; rfl)
                 refine one_ (i := 4) (N := some 73) #[true,true,true,true,true,false,false,false] rfl rfl (one_of HT_.out (by kernel_rfl)) (by decide) (fun K hK => ?_)
                 refine value_ (w1 := ?_) (v := ?_) (by rfl) rfl ?_ ?_
                 rotate_left 2; · (go_simp; constructor; rfl; rfl)
                 refine hK.out _ _ (cell_alloc hS_ _) (fun hS_ => ?_)
                 clear hK K
                 refine norm_ (a' := ?_) ?_ ?_
                 rotate_left; · (show Act.put _ (some 73) _ = _; simp only [Act.put, List.setIfInBounds_toArray, List.set_cons_zero, List.set_cons_succ]; rfl)
                 refine one_ (i := 5) (N := some 74) #[true,true,true,true,true,true,false,false] rfl rfl (one_of HT_.out (by kernel_rfl)) (by decide) (fun K hK => ?_)
                 refine Kd.R_append_step kTerm (w0 := w4) (w.heap.size + 2) (by rfl) (.tmp 70) (.tmp 73) 26 25 (.agg #[.string ⟨#[]⟩, .string ⟨#[]⟩, .int .i64 0]) 40 (by rfl) Try.underlying26 info_term (by rfl) (by decide) (by omega) v3 [a] c [.string c.var, .string c.val.sym, .int .i64 c.val.num] (fun q => w.heap.size + 2 ≤ q) (fun _ => False) (by rfl) (by rfl) (kTerm_mkM _ _ _ c) (fun _ hk => hk.elim) (fun _ hk => Nat.le_trans (Nat.le_trans hz3 hF4.size) hk) (hF4.R (Kd.R_drew hR3.out) (fun q hq e => by have : q = g := e; omega)) (Below.refl _ _) (Nat.le_trans hz3 hF4.size) (by simp) ?_
                 intro v5 w5 hR5 hB5 hg5 hat5
                 obtain ⟨gg, cap, rfl, hgg⟩ := Kd.R_form hR5 (by simp)
                 have bk5 : ∀ x o, w3.heap[x]? = some o → x ≠ g → x < w.heap.size + 2 → w5.heap[x]? = some o := fun x o ho hx hxB => (hg5.block x (Nat.lt_of_lt_of_le (blk_lt ho) hF4.size) (fun e => absurd (hR3.out.1 x e.symm) (Nat.not_le.mpr hxB))).trans (hF4.blk (blk_drew ho) hx)
                 have hL5 := Aside0.mk (bk5 _ _ hL3.out (by omega) (by omega))
                 have hD5 := Aside0.mk (bk5 _ _ hD3.out (by omega) (by omega))
                 have hg5g : w5.heap[g]? = w4.heap[g]? := hg5.block g hP4.lt (fun e => absurd (hR3.out.1 g e.symm) (by omega))
                 have hP5 : Aside0 (PAt w0 T s w5 g _) := ⟨by obtain ⟨A, c, hx, rr⟩ := hP4; exact ⟨A, c, hg5g.trans hx, rr⟩⟩
                 have hF5 := Aside0.mk ((hF3.out.drew.trans hF4).step (Fr.of_grown hg5 (S := fun q => w.heap.size + 2 ≤ q) (fun q e => Or.inl (hR3.out.1 q e))) (fun q hq => Or.inr (by omega)))
                 have hz5 : w4.heap.size ≤ w5.heap.size := hg5.size
                 have hR5 := Aside0.mk hR5
                 clear bk5 hg5g hg5 hB5 hat5 hgg
                 refine hK.out _ _ ((blk_cell hL5.out 5).trans rfl) (fun hS_ => ?_)
                 clear hK K
                 refine norm_ (a' := ?_) ?_ ?_
                 rotate_left; · (show Act.put _ (some 74) _ = _; simp only [Act.put, List.setIfInBounds_toArray, List.set_cons_zero, List.set_cons_succ]; rfl)
                 refine pure_ (i := 6) (N := some 75) (v := ?_) (a' := ?_) #[true,true,true,true,true,true,true,false] rfl rfl (any_of HT_.out (by kernel_rfl)) (fun _ _ _ h => h) (Or.inl ⟨by rfl, ?_⟩) ?_ ?_
                 rotate_left; · (intro w'; go_simp; with_reducible rfl)
                 rotate_left; · (simp only [Act.put, List.setIfInBounds_toArray, List.set_cons_zero, List.set_cons_succ]; rfl)
                 refine last_ (i := 7) (N := none) #[true,true,true,true,true,true,true,true] rfl rfl (one_of HT_.out (by kernel_rfl)) (by decide) (fun K hK => ?_)
                 have e5 : w5.cell? ⟨w.heap.size + 1, 5, none⟩ = some v3 := (blk_cell hL5.out 5).trans rfl
                 have f5 : w5.frozen? ⟨w.heap.size + 1, 5, none⟩ = false := blk_frozen hL5.out 5
                 refine skip_ (w1 := ?_) (by rfl) rfl ?_ ?_
                 rotate_left; · (go_simp; rfl)
                 refine hK.out _ _ ?_
                 clear hK K
                 refine wpAnyLast_done (by kernel_rfl) ?_ _
                 have hS5 := LitSt.app hB0.out hgw hg0 hP5.out hF5.out hL5.out hD5.out hR5.out (Nat.le_trans (Nat.le_trans hz3 hF4.size) hz5)
                 refine then_world (fun w' => LitSt w0 T s g w j 3 _ [a, c] w') hS5 (fun w3 hS3 => ?_)
                 replace hS3 := Aside0.mk hS3
                 have hz9 := blk_lt hS3.out.d
                 have e0 : w3.cell? ⟨w.heap.size + 1, 0, none⟩ = some (.int .u8 (⟨3, Term.z, noStr, [a, c]⟩ : Lit).kind) := (blk_cell hS3.out.l 0).trans rfl
                 have e1 : w3.cell? ⟨w.heap.size + 1, 1, none⟩ = some (.string (⟨3, Term.z, noStr, [a, c]⟩ : Lit).who.var) := (blk_cell hS3.out.l 1).trans rfl
                 have e2 : w3.cell? ⟨w.heap.size + 1, 2, none⟩ = some (.string (⟨3, Term.z, noStr, [a, c]⟩ : Lit).who.val.sym) := (blk_cell hS3.out.l 2).trans rfl
                 have e3 : w3.cell? ⟨w.heap.size + 1, 3, none⟩ = some (.int .i64 (⟨3, Term.z, noStr, [a, c]⟩ : Lit).who.val.num) := (blk_cell hS3.out.l 3).trans rfl
                 have e4 : w3.cell? ⟨w.heap.size + 1, 4, none⟩ = some (.string (⟨3, Term.z, noStr, [a, c]⟩ : Lit).pred) := (blk_cell hS3.out.l 4).trans rfl
                 have e5 : w3.cell? ⟨w.heap.size + 1, 5, none⟩ = some (.slice (some ⟨gg, 0, none⟩) 2 cap) := (blk_cell hS3.out.l 5).trans rfl
                 have d0 : w3.cell? ⟨w.heap.size, 0, none⟩ = some (.int .u8 0) := (blk_cell hS3.out.d 0).trans rfl
                 have d1 : w3.cell? ⟨w.heap.size, 1, none⟩ = some (.string ⟨#[]⟩) := (blk_cell hS3.out.d 1).trans rfl
                 have d2 : w3.cell? ⟨w.heap.size, 2, none⟩ = some (.string ⟨#[]⟩) := (blk_cell hS3.out.d 2).trans rfl
                 have d3 : w3.cell? ⟨w.heap.size, 3, none⟩ = some (.int .i64 0) := (blk_cell hS3.out.d 3).trans rfl
                 have d4 : w3.cell? ⟨w.heap.size, 4, none⟩ = some (.string ⟨#[]⟩) := (blk_cell hS3.out.d 4).trans rfl
                 have d5 : w3.cell? ⟨w.heap.size, 5, none⟩ = some (.slice none 0 0) := (blk_cell hS3.out.d 5).trans rfl
                 have f0 := blk_frozen hS3.out.d 0
                 have f1 := blk_frozen hS3.out.d 1
                 have f2 := blk_frozen hS3.out.d 2
                 have f3 := blk_frozen hS3.out.d 3
                 have f4 := blk_frozen hS3.out.d 4
                 have f5 := blk_frozen hS3.out.d 5
                 go_wp2
                 exact lit_end (l := ⟨3, Term.z, noStr, [a, c]⟩) (av := .slice (some ⟨gg, 0, none⟩) 2 cap) rfl rfl hS3.out.d (Kd.R_lower hS3.out.r (by omega)) hS3.out.p hS3.out.f hgw hE4.out
           · have hE3 := Aside0.mk (show literalP T s n = pairP T s 4 a m by rw [hE2.out, hu]; rfl)
             have hlt := isT_lt hu
             replace hu := Aside0.mk hu
             go_wp2_with fail
             refine (is_calls 0 m unlike (by omega) hS3.out.p hS3.out.b hT (by omega)).mono ?_; rintro e w7 ⟨rfl, hd⟩
             rw [hu.out]
             have hS7 := Aside0.mk (hS3.out.drawn hd)
             clear hd hS3
             have e0 : w7.cell? ⟨w.heap.size + 1, 0, none⟩ = some (.int .u8 3) := (blk_cell hS7.out.l 0).trans rfl
             have f0 := blk_frozen hS7.out.l 0
             obtain ⟨A1, c1, p0, p1, p2, q2, hm, _, _⟩ := hS7.out.p.cells
             go_wp2_with fail
             obtain ⟨v3, hv3⟩ : ∃ v3, LitSt w0 T s g w m 3 v3 [a] w7 := ⟨_, hS7.out⟩
             refine wp_world (fun w' => LitSt w0 T s g w (m + 1) 4 v3 [a] w') ((hv3.kind hgw hBz 4).to hgw (m + 1) ((m : Int) + 1) (by omega) (by omega)) (fun w3 hS3 => ?_)
             replace hS3 := Aside0.mk hS3
             clear hS7 e0 f0 p0 p1 p2 q2 hE2 hv3
             have hP3 := Aside0.mk hS3.out.p
             have hB3 := Aside0.mk hS3.out.b
             have hF3 := Aside0.mk hS3.out.f
             have hL3 := Aside0.mk hS3.out.l
             have hD3 := Aside0.mk hS3.out.d
             have hR3 := Aside0.mk hS3.out.r
             have hz3 := hS3.out.z
             have c5 : w3.cell? ⟨w.heap.size + 1, 5, none⟩ = some v3 := (blk_cell hL3.out 5).trans rfl
             obtain ⟨r, hr⟩ : ∃ r, r = termP T s (m + 1) := ⟨_, rfl⟩
             cases r with
             | error p =>
               have hE4 := Aside0.mk (show literalP T s n = .error p by rw [hE3.out]; unfold pairP; rw [← hr])
               replace hr := Aside0.mk hr
               refine start_ (n := 8) (S := fun w' => w'.cell? ⟨w.heap.size + 1, 5, none⟩ = some v3) (ds := [7]) #[false,false,false,false,false,false,false,false] rfl rfl rfl c5 (fun hS_ => ?_)
               refine with_tabW rLit17.tab rLit17.bits (fun HT_ HW_ => ?_)
               refine pure_ (i := 0) (N := some 69) (v := ?_) (a' := ?_) #[true,false,false,false,false,false,false,false] rfl rfl (any_of HT_.out (by kernel_rfl)) (fun _ _ _ h => h) (Or.inl ⟨by rfl, ?_⟩) ?_ ?_
               rotate_left; · (intro w'; go_simp; with_reducible rfl)
               rotate_left; · (simp only [Act.put, List.setIfInBounds_toArray, List.set_cons_zero, List.set_cons_succ]; rfl)
               refine take_ (i := 1) (N := some 70) (v := ?_) (a' := ?_) #[true,true,false,false,false,false,false,false] rfl rfl (take_ofW HT_.out HW_.out (by kernel_rfl)) (fun _ _ _ h => h) (Or.inl ⟨by rfl, ?_⟩) hS_ ?_ ?_
               rotate_left; · (rintro w' s0; go_simp; with_reducible rfl)
               rotate_left; · (simp only [Act.put, List.setIfInBounds_toArray, List.set_cons_zero, List.set_cons_succ]; rfl)
               refine pure_ (i := 2) (N := some 71) (v := ?_) (a' := ?_) #[true,true,true,false,false,false,false,false] rfl rfl (any_of HT_.out (by kernel_rfl)) (fun _ _ _ h => h) (Or.inl ⟨by rfl, ?_⟩) ?_ ?_
               rotate_left; · (intro w'; go_simp; with_reducible rfl)
               rotate_left; · (simp only [Act.put, List.setIfInBounds_toArray, List.set_cons_zero, List.set_cons_succ]; rfl)
               refine one_ (i := 3) (N := some 72) #[true,true,true,true,false,false,false,false] rfl rfl (one_of HT_.out (by kernel_rfl)) (by decide) (fun K hK => ?_)
               refine goesP Try.func66 (by kernel_rfl) rfl #[.pointer (some ⟨g, 0, none⟩)] (by rfl) rfl rfl (by simp only [List.map_toArray, List.map_cons, List.map_nil]; rfl) ?_
               refine (term_calls (w0 := w0) (T := T) (s := s) (n := m + 1) hP3.out.drew (Bel.drew hB3.out) hT).mono ?_
               rw [← hr.out]
               rintro e w4 ⟨rfl, hF4⟩
               refine .inr ⟨_, rfl, ?_⟩
               refine ⟨rfl, ?_⟩
               rw [hE4.out]
               exact ⟨rfl, hF3.out.drew.trans hF4⟩
             | ok r =>
               obtain ⟨c, j⟩ := r
               have hE4 := Aside0.mk (show literalP T s n = .ok (⟨4, Term.z, noStr, [a, c]⟩, j) by rw [hE3.out]; unfold pairP; rw [← hr])
               replace hr := Aside0.mk hr
               refine start_ (n := 8) (S := fun w' => w'.cell? ⟨w.heap.size + 1, 5, none⟩ = some v3) (ds := [7]) #[false,false,false,false,false,false,false,false] rfl rfl rfl c5 (fun hS_ => ?_)
               refine with_tabW rLit17.tab rLit17.bits (fun HT_ HW_ => ?_)
               refine pure_ (i := 0) (N := some 69) (v := ?_) (a' := ?_) #[true,false,false,false,false,false,false,false] rfl rfl (any_of HT_.out (by kernel_rfl)) (fun _ _ _ h => h) (Or.inl ⟨by rfl, ?_⟩) ?_ ?_
               rotate_left; · (intro w'; go_simp; with_reducible rfl)
               rotate_left; · (simp only [Act.put, List.setIfInBounds_toArray, List.set_cons_zero, List.set_cons_succ]; rfl)
               refine take_ (i := 1) (N := some 70) (v := ?_) (a' := ?_) #[true,true,false,false,false,false,false,false] rfl rfl (take_ofW HT_.out HW_.out (by kernel_rfl)) (fun _ _ _ h => h) (Or.inl ⟨by rfl, ?_⟩) hS_ ?_ ?_
               rotate_left; · (rintro w' s0; go_simp; with_reducible rfl)
               rotate_left; · (simp only [Act.put, List.setIfInBounds_toArray, List.set_cons_zero, List.set_cons_succ]; rfl)
               refine pure_ (i := 2) (N := some 71) (v := ?_) (a' := ?_) #[true,true,true,false,false,false,false,false] rfl rfl (any_of HT_.out (by kernel_rfl)) (fun _ _ _ h => h) (Or.inl ⟨by rfl, ?_⟩) ?_ ?_
               rotate_left; · (intro w'; go_simp; with_reducible rfl)
               rotate_left; · (simp only [Act.put, List.setIfInBounds_toArray, List.set_cons_zero, List.set_cons_succ]; rfl)
               refine one_ (i := 3) (N := some 72) #[true,true,true,true,false,false,false,false] rfl rfl (one_of HT_.out (by kernel_rfl)) (by decide) (fun K hK => ?_)
               refine goesP Try.func66 (by kernel_rfl) rfl #[.pointer (some ⟨g, 0, none⟩)] (by rfl) rfl rfl (by simp only [List.map_toArray, List.map_cons, List.map_nil]; rfl) ?_
               refine (term_calls (w0 := w0) (T := T) (s := s) (n := m + 1) hP3.out.drew (Bel.drew hB3.out) hT).mono ?_
               rw [← hr.out]
               rintro e w4 ⟨⟨v1, rfl, rfl⟩, hP4, hF4⟩
               refine .inl ⟨_, rfl, ?_⟩
               refine hK.out _ _ (hF4.cell (p := ⟨w.heap.size + 1, 5, none⟩) hS_ (by simp; omega)) (fun hS_ => ?_)
               clear hK K
               refine norm_ (a' := ?_) ?_ ?_
               rotate_left; · (show Act.put _ (some 72) _ = _; simp only [Act.put, List.setIfInBounds_toArray, List.set_cons_zero, List.set_cons_succ]; rfl)
               refine one_ (i := 4) (N := some 73) #[true,true,true,true,true,false,false,false] rfl rfl (one_of HT_.out (by kernel_rfl)) (by decide) (fun K hK => ?_)
               refine value_ (w1 := ?_) (v := ?_) (by rfl) rfl ?_ ?_
               rotate_left 2; · (go_simp; constructor; rfl; rfl)
               refine hK.out _ _ (cell_alloc hS_ _) (fun hS_ => ?_)
               clear hK K
               refine norm_ (a' := ?_) ?_ ?_
               rotate_left; · (show Act.put _ (some 73) _ = _; simp only [Act.put, List.setIfInBounds_toArray, List.set_cons_zero, List.set_cons_succ]; rfl)
               refine one_ (i := 5) (N := some 74) #[true,true,true,true,true,true,false,false] rfl rfl (one_of HT_.out (by kernel_rfl)) (by decide) (fun K hK => ?_)
               refine Kd.R_append_step kTerm (w0 := w4) (w.heap.size + 2) (by rfl) (.tmp 70) (.tmp 73) 26 25 (.agg #[.string ⟨#[]⟩, .string ⟨#[]⟩, .int .i64 0]) 40 (by rfl) Try.underlying26 info_term (by rfl) (by decide) (by omega) v3 [a] c [.string c.var, .string c.val.sym, .int .i64 c.val.num] (fun q => w.heap.size + 2 ≤ q) (fun _ => False) (by rfl) (by rfl) (kTerm_mkM _ _ _ c) (fun _ hk => hk.elim) (fun _ hk => Nat.le_trans (Nat.le_trans hz3 hF4.size) hk) (hF4.R (Kd.R_drew hR3.out) (fun q hq e => by have : q = g := e; omega)) (Below.refl _ _) (Nat.le_trans hz3 hF4.size) (by simp) ?_
               intro v5 w5 hR5 hB5 hg5 hat5
               obtain ⟨gg, cap, rfl, hgg⟩ := Kd.R_form hR5 (by simp)
               have bk5 : ∀ x o, w3.heap[x]? = some o → x ≠ g → x < w.heap.size + 2 → w5.heap[x]? = some o := fun x o ho hx hxB => (hg5.block x (Nat.lt_of_lt_of_le (blk_lt ho) hF4.size) (fun e => absurd (hR3.out.1 x e.symm) (Nat.not_le.mpr hxB))).trans (hF4.blk (blk_drew ho) hx)
               have hL5 := Aside0.mk (bk5 _ _ hL3.out (by omega) (by omega))
               have hD5 := Aside0.mk (bk5 _ _ hD3.out (by omega) (by omega))
               have hg5g : w5.heap[g]? = w4.heap[g]? := hg5.block g hP4.lt (fun e => absurd (hR3.out.1 g e.symm) (by omega))
               have hP5 : Aside0 (PAt w0 T s w5 g _) := ⟨by obtain ⟨A, c, hx, rr⟩ := hP4; exact ⟨A, c, hg5g.trans hx, rr⟩⟩
               have hF5 := Aside0.mk ((hF3.out.drew.trans hF4).step (Fr.of_grown hg5 (S := fun q => w.heap.size + 2 ≤ q) (fun q e => Or.inl (hR3.out.1 q e))) (fun q hq => Or.inr (by omega)))
               have hz5 : w4.heap.size ≤ w5.heap.size := hg5.size
               have hR5 := Aside0.mk hR5
               clear bk5 hg5g hg5 hB5 hat5 hgg
               refine hK.out _ _ ((blk_cell hL5.out 5).trans rfl) (fun hS_ => ?_)
               clear hK K
               refine norm_ (a' := ?_) ?_ ?_
               rotate_left; · (show Act.put _ (some 74) _ = _; simp only [Act.put, List.setIfInBounds_toArray, List.set_cons_zero, List.set_cons_succ]; rfl)
               refine pure_ (i := 6) (N := some 75) (v := ?_) (a' := ?_) #[true,true,true,true,true,true,true,false] rfl rfl (any_of HT_.out (by kernel_rfl)) (fun _ _ _ h => h) (Or.inl ⟨by rfl, ?_⟩) ?_ ?_
               rotate_left; · (intro w'; go_simp; with_reducible rfl)
               rotate_left; · (simp only [Act.put, List.setIfInBounds_toArray, List.set_cons_zero, List.set_cons_succ]; rfl)
               refine last_ (i := 7) (N := none) #[true,true,true,true,true,true,true,true] rfl rfl (one_of HT_.out (by kernel_rfl)) (by decide) (fun K hK => ?_)
               have e5 : w5.cell? ⟨w.heap.size + 1, 5, none⟩ = some v3 := (blk_cell hL5.out 5).trans rfl
               have f5 : w5.frozen? ⟨w.heap.size + 1, 5, none⟩ = false := blk_frozen hL5.out 5
               refine skip_ (w1 := ?_) (by rfl) rfl ?_ ?_
               rotate_left; · (go_simp; rfl)
               refine hK.out _ _ ?_
               clear hK K
               refine wpAnyLast_done (by kernel_rfl) ?_ _
               have hS5 := LitSt.app hB0.out hgw hg0 hP5.out hF5.out hL5.out hD5.out hR5.out (Nat.le_trans (Nat.le_trans hz3 hF4.size) hz5)
               refine then_world (fun w' => LitSt w0 T s g w j 4 _ [a, c] w') hS5 (fun w3 hS3 => ?_)
               replace hS3 := Aside0.mk hS3
               have hz9 := blk_lt hS3.out.d
               have e0 : w3.cell? ⟨w.heap.size + 1, 0, none⟩ = some (.int .u8 (⟨4, Term.z, noStr, [a, c]⟩ : Lit).kind) := (blk_cell hS3.out.l 0).trans rfl
               have e1 : w3.cell? ⟨w.heap.size + 1, 1, none⟩ = some (.string (⟨4, Term.z, noStr, [a, c]⟩ : Lit).who.var) := (blk_cell hS3.out.l 1).trans rfl
               have e2 : w3.cell? ⟨w.heap.size + 1, 2, none⟩ = some (.string (⟨4, Term.z, noStr, [a, c]⟩ : Lit).who.val.sym) := (blk_cell hS3.out.l 2).trans rfl
               have e3 : w3.cell? ⟨w.heap.size + 1, 3, none⟩ = some (.int .i64 (⟨4, Term.z, noStr, [a, c]⟩ : Lit).who.val.num) := (blk_cell hS3.out.l 3).trans rfl
               have e4 : w3.cell? ⟨w.heap.size + 1, 4, none⟩ = some (.string (⟨4, Term.z, noStr, [a, c]⟩ : Lit).pred) := (blk_cell hS3.out.l 4).trans rfl
               have e5 : w3.cell? ⟨w.heap.size + 1, 5, none⟩ = some (.slice (some ⟨gg, 0, none⟩) 2 cap) := (blk_cell hS3.out.l 5).trans rfl
               have d0 : w3.cell? ⟨w.heap.size, 0, none⟩ = some (.int .u8 0) := (blk_cell hS3.out.d 0).trans rfl
               have d1 : w3.cell? ⟨w.heap.size, 1, none⟩ = some (.string ⟨#[]⟩) := (blk_cell hS3.out.d 1).trans rfl
               have d2 : w3.cell? ⟨w.heap.size, 2, none⟩ = some (.string ⟨#[]⟩) := (blk_cell hS3.out.d 2).trans rfl
               have d3 : w3.cell? ⟨w.heap.size, 3, none⟩ = some (.int .i64 0) := (blk_cell hS3.out.d 3).trans rfl
               have d4 : w3.cell? ⟨w.heap.size, 4, none⟩ = some (.string ⟨#[]⟩) := (blk_cell hS3.out.d 4).trans rfl
               have d5 : w3.cell? ⟨w.heap.size, 5, none⟩ = some (.slice none 0 0) := (blk_cell hS3.out.d 5).trans rfl
               have f0 := blk_frozen hS3.out.d 0
               have f1 := blk_frozen hS3.out.d 1
               have f2 := blk_frozen hS3.out.d 2
               have f3 := blk_frozen hS3.out.d 3
               have f4 := blk_frozen hS3.out.d 4
               have f5 := blk_frozen hS3.out.d 5
               go_wp2
               exact lit_end (l := ⟨4, Term.z, noStr, [a, c]⟩) (av := .slice (some ⟨gg, 0, none⟩) 2 cap) rfl rfl hS3.out.d (Kd.R_lower hS3.out.r (by omega)) hS3.out.p hS3.out.f hgw hE4.out
     · cases hb1 : isT T s (n + 1) less
       · replace hb1 := Aside0.mk hb1
         replace hy := Aside0.mk hy
         go_enter Try.func36, Try.ntmps36
         go_wp2_with fail
         refine (is_calls 0 n nots (by omega) hS0.out.p hS0.out.b hT (by omega)).mono ?_; rintro e w1 ⟨rfl, hd⟩
         rw [hn.out]
         have hS1 := Aside0.mk (hS0.out.drawn hd)
         clear hd hS0
         go_wp2_with fail
         refine (kind_calls hS1.out.p hS1.out.b).mono ?_; rintro e w2 ⟨rfl, hd⟩
         have hS2 := Aside0.mk (hS1.out.drawn hd)
         clear hd hS1
         go_wp2_with fail
         refine (is_calls 1 (n + 1) less (by omega) hS2.out.p hS2.out.b hT (by omega)).mono ?_; rintro e w3 ⟨rfl, hd⟩
         rw [hb1.out]
         have hS3 := Aside0.mk (hS2.out.drawn hd)
         clear hd hS2
         go_wp2_with fail
         refine (is_calls 1 (n + 1) unlike (by omega) hS3.out.p hS3.out.b hT (by omega)).mono ?_; rintro e w4 ⟨rfl, hd⟩
         have hS4 := Aside0.mk (hS3.out.drawn hd)
         clear hd hS3
         go_wp2_with fail
         refine (is_calls 1 (n + 1) says (by omega) hS4.out.p hS4.out.b hT (by omega)).mono ?_; rintro e w5 ⟨rfl, hd⟩
         rw [hy.out]
         have hS5 := Aside0.mk (hS4.out.drawn hd)
         clear hd hS4
         have e0 : w5.cell? ⟨w.heap.size + 1, 0, none⟩ = some (.int .u8 1) := (blk_cell hS5.out.l 0).trans rfl
         have f0 := blk_frozen hS5.out.l 0
         go_wp2_with fail
         obtain ⟨v3, hv3⟩ : ∃ v3, v3 = Value.slice none 0 0 := ⟨_, rfl⟩
         refine wp_world (fun w' => LitSt w0 T s g w n 3 v3 [] w') (by rw [hv3]; exact hS5.out.kind hgw hBz 3) (fun w3 hS3 => ?_)
         replace hS3 := Aside0.mk hS3
         clear hS5 e0 f0 hv3
         have hP3 := Aside0.mk hS3.out.p
         have hB3 := Aside0.mk hS3.out.b
         have hF3 := Aside0.mk hS3.out.f
         have hL3 := Aside0.mk hS3.out.l
         have hD3 := Aside0.mk hS3.out.d
         have hR3 := Aside0.mk hS3.out.r
         have hz3 := hS3.out.z
         have c5 : w3.cell? ⟨w.heap.size + 1, 5, none⟩ = some v3 := (blk_cell hL3.out 5).trans rfl
         obtain ⟨r, hr⟩ : ∃ r, r = termP T s n := ⟨_, rfl⟩
         cases r with
         | error p =>
           have hE2 := Aside0.mk (show literalP T s n = .error p by rw [hE.out, ← hr])
           replace hr := Aside0.mk hr
           refine start_ (n := 8) (S := fun w' => w'.cell? ⟨w.heap.size + 1, 5, none⟩ = some v3) (ds := [7]) #[false,false,false,false,false,false,false,false] rfl rfl rfl c5 (fun hS_ => ?_)
           refine with_tabW rLit11.tab rLit11.bits (fun HT_ HW_ => ?_)
           refine pure_ (i := 0) (N := some 47) (v := ?_) (a' := ?_) #[true,false,false,false,false,false,false,false] rfl rfl (any_of HT_.out (by kernel_rfl)) (fun _ _ _ h => h) (Or.inl ⟨by rfl, ?_⟩) ?_ ?_
           rotate_left; · (intro w'; go_simp; with_reducible rfl)
           rotate_left; · (simp only [Act.put, List.setIfInBounds_toArray, List.set_cons_zero, List.set_cons_succ]; rfl)
           refine take_ (i := 1) (N := some 48) (v := ?_) (a' := ?_) #[true,true,false,false,false,false,false,false] rfl rfl (take_ofW HT_.out HW_.out (by kernel_rfl)) (fun _ _ _ h => h) (Or.inl ⟨by rfl, ?_⟩) hS_ ?_ ?_
           rotate_left; · (rintro w' s0; go_simp; with_reducible rfl)
           rotate_left; · (simp only [Act.put, List.setIfInBounds_toArray, List.set_cons_zero, List.set_cons_succ]; rfl)
           refine pure_ (i := 2) (N := some 49) (v := ?_) (a' := ?_) #[true,true,true,false,false,false,false,false] rfl rfl (any_of HT_.out (by kernel_rfl)) (fun _ _ _ h => h) (Or.inl ⟨by rfl, ?_⟩) ?_ ?_
           rotate_left; · (intro w'; go_simp; with_reducible rfl)
           rotate_left; · (simp only [Act.put, List.setIfInBounds_toArray, List.set_cons_zero, List.set_cons_succ]; rfl)
           refine one_ (i := 3) (N := some 50) #[true,true,true,true,false,false,false,false] rfl rfl (one_of HT_.out (by kernel_rfl)) (by decide) (fun K hK => ?_)
           refine goesP Try.func66 (by kernel_rfl) rfl #[.pointer (some ⟨g, 0, none⟩)] (by rfl) rfl rfl (by simp only [List.map_toArray, List.map_cons, List.map_nil]; rfl) ?_
           refine (term_calls (w0 := w0) (T := T) (s := s) (n := n) hP3.out.drew (Bel.drew hB3.out) hT).mono ?_
           rw [← hr.out]
           rintro e w4 ⟨rfl, hF4⟩
           refine .inr ⟨_, rfl, ?_⟩
           refine ⟨rfl, ?_⟩
           rw [hE2.out]
           exact ⟨rfl, hF3.out.drew.trans hF4⟩
         | ok r =>
           obtain ⟨a, m⟩ := r
           have hE2 := Aside0.mk (show literalP T s n = if isT T s m unlike then pairP T s 4 a m else if isT T s m less then pairP T s 3 a m else .error (posOf T s m, 6) by rw [hE.out, ← hr])
           replace hr := Aside0.mk hr
           refine start_ (n := 8) (S := fun w' => w'.cell? ⟨w.heap.size + 1, 5, none⟩ = some v3) (ds := [7]) #[false,false,false,false,false,false,false,false] rfl rfl rfl c5 (fun hS_ => ?_)
           refine with_tabW rLit11.tab rLit11.bits (fun HT_ HW_ => ?_)
           refine pure_ (i := 0) (N := some 47) (v := ?_) (a' := ?_) #[true,false,false,false,false,false,false,false] rfl rfl (any_of HT_.out (by kernel_rfl)) (fun _ _ _ h => h) (Or.inl ⟨by rfl, ?_⟩) ?_ ?_
           rotate_left; · (intro w'; go_simp; with_reducible rfl)
           rotate_left; · (simp only [Act.put, List.setIfInBounds_toArray, List.set_cons_zero, List.set_cons_succ]; rfl)
           refine take_ (i := 1) (N := some 48) (v := ?_) (a' := ?_) #[true,true,false,false,false,false,false,false] rfl rfl (take_ofW HT_.out HW_.out (by kernel_rfl)) (fun _ _ _ h => h) (Or.inl ⟨by rfl, ?_⟩) hS_ ?_ ?_
           rotate_left; · (rintro w' s0; go_simp; with_reducible rfl)
           rotate_left; · (simp only [Act.put, List.setIfInBounds_toArray, List.set_cons_zero, List.set_cons_succ]; rfl)
           refine pure_ (i := 2) (N := some 49) (v := ?_) (a' := ?_) #[true,true,true,false,false,false,false,false] rfl rfl (any_of HT_.out (by kernel_rfl)) (fun _ _ _ h => h) (Or.inl ⟨by rfl, ?_⟩) ?_ ?_
           rotate_left; · (intro w'; go_simp; with_reducible rfl)
           rotate_left; · (simp only [Act.put, List.setIfInBounds_toArray, List.set_cons_zero, List.set_cons_succ]; rfl)
           refine one_ (i := 3) (N := some 50) #[true,true,true,true,false,false,false,false] rfl rfl (one_of HT_.out (by kernel_rfl)) (by decide) (fun K hK => ?_)
           refine goesP Try.func66 (by kernel_rfl) rfl #[.pointer (some ⟨g, 0, none⟩)] (by rfl) rfl rfl (by simp only [List.map_toArray, List.map_cons, List.map_nil]; rfl) ?_
           refine (term_calls (w0 := w0) (T := T) (s := s) (n := n) hP3.out.drew (Bel.drew hB3.out) hT).mono ?_
           rw [← hr.out]
           rintro e w4 ⟨⟨v1, rfl, rfl⟩, hP4, hF4⟩
           refine .inl ⟨_, rfl, ?_⟩
           refine hK.out _ _ (hF4.cell (p := ⟨w.heap.size + 1, 5, none⟩) hS_ (by simp; omega)) (fun hS_ => ?_)
           clear hK K
           refine norm_ (a' := ?_) ?_ ?_
           rotate_left; · (show Act.put _ (some 50) _ = _; simp only [Act.put, List.setIfInBounds_toArray, List.set_cons_zero, List.set_cons_succ]; rfl)
           refine one_ (i := 4) (N := some 51) #[true,true,true,true,true,false,false,false] rfl rfl (one_of HT_.out (by kernel_rfl)) (by decide) (fun K hK => ?_)
           refine value_ (w1 := ?_) (v := ?_) (by rfl) rfl ?_ ?_
           rotate_left 2; · (go_simp; constructor; rfl; rfl)
           refine hK.out _ _ (cell_alloc hS_ _) (fun hS_ => ?_)
           clear hK K
           refine norm_ (a' := ?_) ?_ ?_
           rotate_left; · (show Act.put _ (some 51) _ = _; simp only [Act.put, List.setIfInBounds_toArray, List.set_cons_zero, List.set_cons_succ]; rfl)
           refine one_ (i := 5) (N := some 52) #[true,true,true,true,true,true,false,false] rfl rfl (one_of HT_.out (by kernel_rfl)) (by decide) (fun K hK => ?_)
           refine Kd.R_append_step kTerm (w0 := w4) (w.heap.size + 2) (by rfl) (.tmp 48) (.tmp 51) 26 25 (.agg #[.string ⟨#[]⟩, .string ⟨#[]⟩, .int .i64 0]) 40 (by rfl) Try.underlying26 info_term (by rfl) (by decide) (by omega) v3 [] a [.string a.var, .string a.val.sym, .int .i64 a.val.num] (fun q => w.heap.size + 2 ≤ q) (fun _ => False) (by rfl) (by rfl) (kTerm_mkM _ _ _ a) (fun _ hk => hk.elim) (fun _ hk => Nat.le_trans (Nat.le_trans hz3 hF4.size) hk) (hF4.R (Kd.R_drew hR3.out) (fun q hq e => by have : q = g := e; omega)) (Below.refl _ _) (Nat.le_trans hz3 hF4.size) (by simp) ?_
           intro v5 w5 hR5 hB5 hg5 hat5
           obtain ⟨gg, cap, rfl, hgg⟩ := Kd.R_form hR5 (by simp)
           have bk5 : ∀ x o, w3.heap[x]? = some o → x ≠ g → x < w.heap.size + 2 → w5.heap[x]? = some o := fun x o ho hx hxB => (hg5.block x (Nat.lt_of_lt_of_le (blk_lt ho) hF4.size) (fun e => absurd (hR3.out.1 x e.symm) (Nat.not_le.mpr hxB))).trans (hF4.blk (blk_drew ho) hx)
           have hL5 := Aside0.mk (bk5 _ _ hL3.out (by omega) (by omega))
           have hD5 := Aside0.mk (bk5 _ _ hD3.out (by omega) (by omega))
           have hg5g : w5.heap[g]? = w4.heap[g]? := hg5.block g hP4.lt (fun e => absurd (hR3.out.1 g e.symm) (by omega))
           have hP5 : Aside0 (PAt w0 T s w5 g _) := ⟨by obtain ⟨A, c, hx, rr⟩ := hP4; exact ⟨A, c, hg5g.trans hx, rr⟩⟩
           have hF5 := Aside0.mk ((hF3.out.drew.trans hF4).step (Fr.of_grown hg5 (S := fun q => w.heap.size + 2 ≤ q) (fun q e => Or.inl (hR3.out.1 q e))) (fun q hq => Or.inr (by omega)))
           have hz5 : w4.heap.size ≤ w5.heap.size := hg5.size
           have hR5 := Aside0.mk hR5
           clear bk5 hg5g hg5 hB5 hat5 hgg
           refine hK.out _ _ ((blk_cell hL5.out 5).trans rfl) (fun hS_ => ?_)
           clear hK K
           refine norm_ (a' := ?_) ?_ ?_
           rotate_left; · (show Act.put _ (some 52) _ = _; simp only [Act.put, List.setIfInBounds_toArray, List.set_cons_zero, List.set_cons_succ]; rfl)
           refine pure_ (i := 6) (N := some 53) (v := ?_) (a' := ?_) #[true,true,true,true,true,true,true,false] rfl rfl (any_of HT_.out (by kernel_rfl)) (fun _ _ _ h => h) (Or.inl ⟨by rfl, ?_⟩) ?_ ?_
           rotate_left; · (intro w'; go_simp; with_reducible rfl)
           rotate_left; · (simp only [Act.put, List.setIfInBounds_toArray, List.set_cons_zero, List.set_cons_succ]; rfl)
           refine last_ (i := 7) (N := none) #[true,true,true,true,true,true,true,true] rfl rfl (one_of HT_.out (by kernel_rfl)) (by decide) (fun K hK => ?_)
           have e5 : w5.cell? ⟨w.heap.size + 1, 5, none⟩ = some v3 := (blk_cell hL5.out 5).trans rfl
           have f5 : w5.frozen? ⟨w.heap.size + 1, 5, none⟩ = false := blk_frozen hL5.out 5
           refine skip_ (w1 := ?_) (by rfl) rfl ?_ ?_
           rotate_left; · (go_simp; rfl)
           refine hK.out _ _ ?_
           clear hK K
           refine wpAnyLast_done (by kernel_rfl) ?_ _
           have hS5 := LitSt.app hB0.out hgw hg0 hP5.out hF5.out hL5.out hD5.out hR5.out (Nat.le_trans (Nat.le_trans hz3 hF4.size) hz5)
           refine then_world (fun w' => LitSt w0 T s g w m 3 _ [a] w') hS5 (fun w3 hS3 => ?_)
           replace hS3 := Aside0.mk hS3
           have hmx := hS3.out.p.max
           clear hP3 hB3 hF3 hL3 hD3 hR3 hr hP4 hF4 hP5 hF5 hL5 hD5 hR5 hS_ HT_ HW_ c5
           skip
           cases hu : isT T s m unlike
           · cases hl : isT T s m less
             · have hE3 := Aside0.mk (show literalP T s n = .error (posOf T s m, 6) by rw [hE2.out, hu, hl]; rfl)
               replace hu := Aside0.mk hu
               replace hl := Aside0.mk hl
               go_wp2_with fail
               refine (is_calls 0 m unlike (by omega) hS3.out.p hS3.out.b hT (by omega)).mono ?_; rintro e w7 ⟨rfl, hd⟩
               rw [hu.out]
               have hS7 := Aside0.mk (hS3.out.drawn hd)
               clear hd hS3
               go_wp2_with fail
               refine (is_calls 0 m less (by omega) hS7.out.p hS7.out.b hT (by omega)).mono ?_; rintro e w8 ⟨rfl, hd⟩
               rw [hl.out]
               have hS8 := Aside0.mk (hS7.out.drawn hd)
               clear hd hS7
               go_wp2_with fail
               refine (fail_calls 6 hS8.out.p hS8.out.b).mono ?_; rintro e w9 ⟨rfl, hd⟩
               go_wp2
               refine ⟨rfl, ?_⟩
               rw [hE3.out]
               exact ⟨rfl, hS8.out.f.drawn hd⟩
             · have hE3 := Aside0.mk (show literalP T s n = pairP T s 3 a m by rw [hE2.out, hu, hl]; rfl)
               have hlt := isT_lt hl
               replace hu := Aside0.mk hu
               replace hl := Aside0.mk hl
               go_wp2_with fail
               refine (is_calls 0 m unlike (by omega) hS3.out.p hS3.out.b hT (by omega)).mono ?_; rintro e w7 ⟨rfl, hd⟩
               rw [hu.out]
               have hS7 := Aside0.mk (hS3.out.drawn hd)
               clear hd hS3
               go_wp2_with fail
               refine (is_calls 0 m less (by omega) hS7.out.p hS7.out.b hT (by omega)).mono ?_; rintro e w8 ⟨rfl, hd⟩
               rw [hl.out]
               have hS8 := Aside0.mk (hS7.out.drawn hd)
               clear hd hS7
               have e0 : w8.cell? ⟨w.heap.size + 1, 0, none⟩ = some (.int .u8 3) := (blk_cell hS8.out.l 0).trans rfl
               have f0 := blk_frozen hS8.out.l 0
               obtain ⟨A1, c1, p0, p1, p2, q2, hm, _, _⟩ := hS8.out.p.cells
               go_wp2_with fail
               obtain ⟨v3, hv3⟩ : ∃ v3, LitSt w0 T s g w m 3 v3 [a] w8 := ⟨_, hS8.out⟩
               refine wp_world (fun w' => LitSt w0 T s g w (m + 1) 3 v3 [a] w') (hv3.to hgw (m + 1) ((m : Int) + 1) (by omega) (by omega)) (fun w3 hS3 => ?_)
               replace hS3 := Aside0.mk hS3
               clear hS8 e0 f0 p0 p1 p2 q2 hE2 hv3
               have hP3 := Aside0.mk hS3.out.p
               have hB3 := Aside0.mk hS3.out.b
               have hF3 := Aside0.mk hS3.out.f
               have hL3 := Aside0.mk hS3.out.l
               have hD3 := Aside0.mk hS3.out.d
               have hR3 := Aside0.mk hS3.out.r
               have hz3 := hS3.out.z
               have c5 : w3.cell? ⟨w.heap.size + 1, 5, none⟩ = some v3 := (blk_cell hL3.out 5).trans rfl
               obtain ⟨r, hr⟩ : ∃ r, r = termP T s (m + 1) := ⟨_, rfl⟩
               cases r with
               | error p =>
                 have hE4 := Aside0.mk (show literalP T s n = .error p by rw [hE3.out]; unfold pairP; rw [← hr])
                 replace hr := Aside0.mk hr
                 refine start_ (n := 8) (S := fun w' => w'.cell? ⟨w.heap.size + 1, 5, none⟩ = some v3) (ds := [7]) #[false,false,false,false,false,false,false,false] rfl rfl rfl c5 (fun hS_ => ?_)
                 refine with_tabW rLit17.tab rLit17.bits (fun HT_ HW_ => ?_)
                 refine pure_ (i := 0) (N := some 69) (v := ?_) (a' := ?_) #[true,false,false,false,false,false,false,false] rfl rfl (any_of HT_.out (by kernel_rfl)) (fun _ _ _ h => h) (Or.inl ⟨by rfl, ?_⟩) ?_ ?_
                 rotate_left; · (intro w'; go_simp; with_reducible rfl)
                 rotate_left; · (simp only [Act.put, List.setIfInBounds_toArray, List.set_cons_zero, List.set_cons_succ]; rfl)
                 refine take_ (i := 1) (N := some 70) (v := ?_) (a' := ?_) #[true,true,false,false,false,false,false,false] rfl rfl (take_ofW HT_.out HW_.out (by kernel_rfl)) (fun _ _ _ h => h) (Or.inl ⟨by rfl, ?_⟩) hS_ ?_ ?_
                 rotate_left; · (rintro w' s0; go_simp; with_reducible rfl)
                 rotate_left; · (simp only [Act.put, List.setIfInBounds_toArray, List.set_cons_zero, List.set_cons_succ]; rfl)
                 refine pure_ (i := 2) (N := some 71) (v := ?_) (a' := ?_) #[true,true,true,false,false,false,false,false] rfl rfl (any_of HT_.out (by kernel_rfl)) (fun _ _ _ h => h) (Or.inl ⟨by rfl, ?_⟩) ?_ ?_
                 rotate_left; · (intro w'; go_simp; with_reducible rfl)
                 rotate_left; · (simp only [Act.put, List.setIfInBounds_toArray, List.set_cons_zero, List.set_cons_succ]; rfl)
                 refine one_ (i := 3) (N := some 72) #[true,true,true,true,false,false,false,false] rfl rfl (one_of HT_.out (by kernel_rfl)) (by decide) (fun K hK => ?_)
                 refine goesP Try.func66 (by kernel_rfl) rfl #[.pointer (some ⟨g, 0, none⟩)] (by rfl) rfl rfl (by simp only [List.map_toArray, List.map_cons, List.map_nil]; rfl) ?_
                 refine (term_calls (w0 := w0) (T := T) (s := s) (n := m + 1) hP3.out.drew (Bel.drew hB3.out) hT).mono ?_
                 rw [← hr.out]
                 rintro e w4 ⟨rfl, hF4⟩
                 refine .inr ⟨_, rfl, ?_⟩
                 refine ⟨rfl, ?_⟩
                 rw [hE4.out]
                 exact ⟨rfl, hF3.out.drew.trans hF4⟩
               | ok r =>
                 obtain ⟨c, j⟩ := r
                 have hE4 := Aside0.mk (show literalP T s n = .ok (⟨3, Term.z, noStr, [a, c]⟩, j) by rw [hE3.out]; unfold pairP; rw [← hr])
                 replace hr := Aside0.mk hr
                 refine start_ (n := 8) (S := fun w' => w'.cell? ⟨w.heap.size + 1, 5, none⟩ = some v3) (ds := [7]) #[false,false,false,false,false,false,false,false] rfl rfl rfl c5 (fun hS_ => ?_)
                 refine with_tabW rLit17.tab rLit17.bits (fun HT_ HW_ => ?_)
                 refine pure_ (i := 0) (N := some 69) (v := ?_) (a' := ?_) #[true,false,false,false,false,false,false,false] rfl rfl (any_of HT_.out (by kernel_rfl)) (fun _ _ _ h => h) (Or.inl ⟨by rfl, ?_⟩) ?_ ?_
                 rotate_left; · (intro w'; go_simp; with_reducible rfl)
                 rotate_left; · (simp only [Act.put, List.setIfInBounds_toArray, List.set_cons_zero, List.set_cons_succ]; rfl)
                 refine take_ (i := 1) (N := some 70) (v := ?_) (a' := ?_) #[true,true,false,false,false,false,false,false] rfl rfl (take_ofW HT_.out HW_.out (by kernel_rfl)) (fun _ _ _ h => h) (Or.inl ⟨by rfl, ?_⟩) hS_ ?_ ?_
                 rotate_left; · (rintro w' s0; go_simp; with_reducible rfl)
                 rotate_left; · (simp only [Act.put, List.setIfInBounds_toArray, List.set_cons_zero, List.set_cons_succ]; rfl)
                 refine pure_ (i := 2) (N := some 71) (v := ?_) (a' := ?_) #[true,true,true,false,false,false,false,false] rfl rfl (any_of HT_.out (by kernel_rfl)) (fun _ _ _ h => h) (Or.inl ⟨by rfl, ?_⟩) ?_ ?_
                 rotate_left; · (intro w'; go_simp; with_reducible rfl)
                 rotate_left; · (simp only [Act.put, List.setIfInBounds_toArray, List.set_cons_zero, List.set_cons_succ]; rfl)
                 refine one_ (i := 3) (N := some 72) #[true,true,true,true,false,false,false,false] rfl rfl (one_of HT_.out (by kernel_rfl)) (by decide) (fun K hK => ?_)
                 refine goesP Try.func66 (by kernel_rfl) rfl #[.pointer (some ⟨g, 0, none⟩)] (by rfl) rfl rfl (by simp only [List.map_toArray, List.map_cons, List.map_nil]; rfl) ?_
                 refine (term_calls (w0 := w0) (T := T) (s := s) (n := m + 1) hP3.out.drew (Bel.drew hB3.out) hT).mono ?_
                 rw [← hr.out]
                 rintro e w4 ⟨⟨v1, rfl, rfl⟩, hP4, hF4⟩
                 refine .inl ⟨_, rfl, ?_⟩
                 refine hK.out _ _ (hF4.cell (p := ⟨w.heap.size + 1, 5, none⟩) hS_ (by simp; omega)) (fun hS_ => ?_)
                 clear hK K
                 refine norm_ (a' := ?_) ?_ ?_
                 rotate_left; · (show Act.put _ (some 72) _ = _; simp only [Act.put, List.setIfInBounds_toArray, List.set_cons_zero, List.set_cons_succ]; rfl)
                 refine one_ (i := 4) (N := some 73) #[true,true,true,true,true,false,false,false] rfl rfl (one_of HT_.out (by kernel_rfl)) (by decide) (fun K hK => ?_)
                 refine value_ (w1 := ?_) (v := ?_) (by rfl) rfl ?_ ?_
                 rotate_left 2; · (go_simp; constructor; rfl; rfl)
                 refine hK.out _ _ (cell_alloc hS_ _) (fun hS_ => ?_)
                 clear hK K
                 refine norm_ (a' := ?_) ?_ ?_
                 rotate_left; · (show Act.put _ (some 73) _ = _; simp only [Act.put, List.setIfInBounds_toArray, List.set_cons_zero, List.set_cons_succ]; rfl)
                 refine one_ (i := 5) (N := some 74) #[true,true,true,true,true,true,false,false] rfl rfl (one_of HT_.out (by kernel_rfl)) (by decide) (fun K hK => ?_)
                 refine Kd.R_append_step kTerm (w0 := w4) (w.heap.size + 2) (by rfl) (.tmp 70) (.tmp 73) 26 25 (.agg #[.string ⟨#[]⟩, .string ⟨#[]⟩, .int .i64 0]) 40 (by rfl) Try.underlying26 info_term (by rfl) (by decide) (by omega) v3 [a] c [.string c.var, .string c.val.sym, .int .i64 c.val.num] (fun q => w.heap.size + 2 ≤ q) (fun _ => False) (by rfl) (by rfl) (kTerm_mkM _ _ _ c) (fun _ hk => hk.elim) (fun _ hk => Nat.le_trans (Nat.le_trans hz3 hF4.size) hk) (hF4.R (Kd.R_drew hR3.out) (fun q hq e => by have : q = g := e; omega)) (Below.refl _ _) (Nat.le_trans hz3 hF4.size) (by simp) ?_
                 intro v5 w5 hR5 hB5 hg5 hat5
                 obtain ⟨gg, cap, rfl, hgg⟩ := Kd.R_form hR5 (by simp)
                 have bk5 : ∀ x o, w3.heap[x]? = some o → x ≠ g → x < w.heap.size + 2 → w5.heap[x]? = some o := fun x o ho hx hxB => (hg5.block x (Nat.lt_of_lt_of_le (blk_lt ho) hF4.size) (fun e => absurd (hR3.out.1 x e.symm) (Nat.not_le.mpr hxB))).trans (hF4.blk (blk_drew ho) hx)
                 have hL5 := Aside0.mk (bk5 _ _ hL3.out (by omega) (by omega))
                 have hD5 := Aside0.mk (bk5 _ _ hD3.out (by omega) (by omega))
                 have hg5g : w5.heap[g]? = w4.heap[g]? := hg5.block g hP4.lt (fun e => absurd (hR3.out.1 g e.symm) (by omega))
                 have hP5 : Aside0 (PAt w0 T s w5 g _) := ⟨by obtain ⟨A, c, hx, rr⟩ := hP4; exact ⟨A, c, hg5g.trans hx, rr⟩⟩
                 have hF5 := Aside0.mk ((hF3.out.drew.trans hF4).step (Fr.of_grown hg5 (S := fun q => w.heap.size + 2 ≤ q) (fun q e => Or.inl (hR3.out.1 q e))) (fun q hq => Or.inr (by omega)))
                 have hz5 : w4.heap.size ≤ w5.heap.size := hg5.size
                 have hR5 := Aside0.mk hR5
                 clear bk5 hg5g hg5 hB5 hat5 hgg
                 refine hK.out _ _ ((blk_cell hL5.out 5).trans rfl) (fun hS_ => ?_)
                 clear hK K
                 refine norm_ (a' := ?_) ?_ ?_
                 rotate_left; · (show Act.put _ (some 74) _ = _; simp only [Act.put, List.setIfInBounds_toArray, List.set_cons_zero, List.set_cons_succ]; rfl)
                 refine pure_ (i := 6) (N := some 75) (v := ?_) (a' := ?_) #[true,true,true,true,true,true,true,false] rfl rfl (any_of HT_.out (by kernel_rfl)) (fun _ _ _ h => h) (Or.inl ⟨by rfl, ?_⟩) ?_ ?_
                 rotate_left; · (intro w'; go_simp; with_reducible rfl)
                 rotate_left; · (simp only [Act.put, List.setIfInBounds_toArray, List.set_cons_zero, List.set_cons_succ]; rfl)
                 refine last_ (i := 7) (N := none) #[true,true,true,true,true,true,true,true] rfl rfl (one_of HT_.out (by kernel_rfl)) (by decide) (fun K hK => ?_)
                 have e5 : w5.cell? ⟨w.heap.size + 1, 5, none⟩ = some v3 := (blk_cell hL5.out 5).trans rfl
                 have f5 : w5.frozen? ⟨w.heap.size + 1, 5, none⟩ = false := blk_frozen hL5.out 5
                 refine skip_ (w1 := ?_) (by rfl) rfl ?_ ?_
                 rotate_left; · (go_simp; rfl)
                 refine hK.out _ _ ?_
                 clear hK K
                 refine wpAnyLast_done (by kernel_rfl) ?_ _
                 have hS5 := LitSt.app hB0.out hgw hg0 hP5.out hF5.out hL5.out hD5.out hR5.out (Nat.le_trans (Nat.le_trans hz3 hF4.size) hz5)
                 refine then_world (fun w' => LitSt w0 T s g w j 3 _ [a, c] w') hS5 (fun w3 hS3 => ?_)
                 replace hS3 := Aside0.mk hS3
                 have hz9 := blk_lt hS3.out.d
                 have e0 : w3.cell? ⟨w.heap.size + 1, 0, none⟩ = some (.int .u8 (⟨3, Term.z, noStr, [a, c]⟩ : Lit).kind) := (blk_cell hS3.out.l 0).trans rfl
                 have e1 : w3.cell? ⟨w.heap.size + 1, 1, none⟩ = some (.string (⟨3, Term.z, noStr, [a, c]⟩ : Lit).who.var) := (blk_cell hS3.out.l 1).trans rfl
                 have e2 : w3.cell? ⟨w.heap.size + 1, 2, none⟩ = some (.string (⟨3, Term.z, noStr, [a, c]⟩ : Lit).who.val.sym) := (blk_cell hS3.out.l 2).trans rfl
                 have e3 : w3.cell? ⟨w.heap.size + 1, 3, none⟩ = some (.int .i64 (⟨3, Term.z, noStr, [a, c]⟩ : Lit).who.val.num) := (blk_cell hS3.out.l 3).trans rfl
                 have e4 : w3.cell? ⟨w.heap.size + 1, 4, none⟩ = some (.string (⟨3, Term.z, noStr, [a, c]⟩ : Lit).pred) := (blk_cell hS3.out.l 4).trans rfl
                 have e5 : w3.cell? ⟨w.heap.size + 1, 5, none⟩ = some (.slice (some ⟨gg, 0, none⟩) 2 cap) := (blk_cell hS3.out.l 5).trans rfl
                 have d0 : w3.cell? ⟨w.heap.size, 0, none⟩ = some (.int .u8 0) := (blk_cell hS3.out.d 0).trans rfl
                 have d1 : w3.cell? ⟨w.heap.size, 1, none⟩ = some (.string ⟨#[]⟩) := (blk_cell hS3.out.d 1).trans rfl
                 have d2 : w3.cell? ⟨w.heap.size, 2, none⟩ = some (.string ⟨#[]⟩) := (blk_cell hS3.out.d 2).trans rfl
                 have d3 : w3.cell? ⟨w.heap.size, 3, none⟩ = some (.int .i64 0) := (blk_cell hS3.out.d 3).trans rfl
                 have d4 : w3.cell? ⟨w.heap.size, 4, none⟩ = some (.string ⟨#[]⟩) := (blk_cell hS3.out.d 4).trans rfl
                 have d5 : w3.cell? ⟨w.heap.size, 5, none⟩ = some (.slice none 0 0) := (blk_cell hS3.out.d 5).trans rfl
                 have f0 := blk_frozen hS3.out.d 0
                 have f1 := blk_frozen hS3.out.d 1
                 have f2 := blk_frozen hS3.out.d 2
                 have f3 := blk_frozen hS3.out.d 3
                 have f4 := blk_frozen hS3.out.d 4
                 have f5 := blk_frozen hS3.out.d 5
                 go_wp2
                 exact lit_end (l := ⟨3, Term.z, noStr, [a, c]⟩) (av := .slice (some ⟨gg, 0, none⟩) 2 cap) rfl rfl hS3.out.d (Kd.R_lower hS3.out.r (by omega)) hS3.out.p hS3.out.f hgw hE4.out
           · have hE3 := Aside0.mk (show literalP T s n = pairP T s 4 a m by rw [hE2.out, hu]; rfl)
             have hlt := isT_lt hu
             replace hu := Aside0.mk hu
             go_wp2_with fail
             refine (is_calls 0 m unlike (by omega) hS3.out.p hS3.out.b hT (by omega)).mono ?_; rintro e w7 ⟨rfl, hd⟩
             rw [hu.out]
             have hS7 := Aside0.mk (hS3.out.drawn hd)
             clear hd hS3
             have e0 : w7.cell? ⟨w.heap.size + 1, 0, none⟩ = some (.int .u8 3) := (blk_cell hS7.out.l 0).trans rfl
             have f0 := blk_frozen hS7.out.l 0
             obtain ⟨A1, c1, p0, p1, p2, q2, hm, _, _⟩ := hS7.out.p.cells
             go_wp2_with fail
             obtain ⟨v3, hv3⟩ : ∃ v3, LitSt w0 T s g w m 3 v3 [a] w7 := ⟨_, hS7.out⟩
             refine wp_world (fun w' => LitSt w0 T s g w (m + 1) 4 v3 [a] w') ((hv3.kind hgw hBz 4).to hgw (m + 1) ((m : Int) + 1) (by omega) (by omega)) (fun w3 hS3 => ?_)
             replace hS3 := Aside0.mk hS3
             clear hS7 e0 f0 p0 p1 p2 q2 hE2 hv3
             have hP3 := Aside0.mk hS3.out.p
             have hB3 := Aside0.mk hS3.out.b
             have hF3 := Aside0.mk hS3.out.f
             have hL3 := Aside0.mk hS3.out.l
             have hD3 := Aside0.mk hS3.out.d
             have hR3 := Aside0.mk hS3.out.r
             have hz3 := hS3.out.z
             have c5 : w3.cell? ⟨w.heap.size + 1, 5, none⟩ = some v3 := (blk_cell hL3.out 5).trans rfl
             obtain ⟨r, hr⟩ : ∃ r, r = termP T s (m + 1) := ⟨_, rfl⟩
             cases r with
             | error p =>
               have hE4 := Aside0.mk (show literalP T s n = .error p by rw [hE3.out]; unfold pairP; rw [← hr])
               replace hr := Aside0.mk hr
               refine start_ (n := 8) (S := fun w' => w'.cell? ⟨w.heap.size + 1, 5, none⟩ = some v3) (ds := [7]) #[false,false,false,false,false,false,false,false] rfl rfl rfl c5 (fun hS_ => ?_)
               refine with_tabW rLit17.tab rLit17.bits (fun HT_ HW_ => ?_)
               refine pure_ (i := 0) (N := some 69) (v := ?_) (a' := ?_) #[true,false,false,false,false,false,false,false] rfl rfl (any_of HT_.out (by kernel_rfl)) (fun _ _ _ h => h) (Or.inl ⟨by rfl, ?_⟩) ?_ ?_
               rotate_left; · (intro w'; go_simp; with_reducible rfl)
               rotate_left; · (simp only [Act.put, List.setIfInBounds_toArray, List.set_cons_zero, List.set_cons_succ]; rfl)
               refine take_ (i := 1) (N := some 70) (v := ?_) (a' := ?_) #[true,true,false,false,false,false,false,false] rfl rfl (take_ofW HT_.out HW_.out (by kernel_rfl)) (fun _ _ _ h => h) (Or.inl ⟨by rfl, ?_⟩) hS_ ?_ ?_
               rotate_left; · (rintro w' s0; go_simp; with_reducible rfl)
               rotate_left; · (simp only [Act.put, List.setIfInBounds_toArray, List.set_cons_zero, List.set_cons_succ]; rfl)
               refine pure_ (i := 2) (N := some 71) (v := ?_) (a' := ?_) #[true,true,true,false,false,false,false,false] rfl rfl (any_of HT_.out (by kernel_rfl)) (fun _ _ _ h => h) (Or.inl ⟨by rfl, ?_⟩) ?_ ?_
               rotate_left; · (intro w'; go_simp; with_reducible rfl)
               rotate_left; · (simp only [Act.put, List.setIfInBounds_toArray, List.set_cons_zero, List.set_cons_succ]; rfl)
               refine one_ (i := 3) (N := some 72) #[true,true,true,true,false,false,false,false] rfl rfl (one_of HT_.out (by kernel_rfl)) (by decide) (fun K hK => ?_)
               refine goesP Try.func66 (by kernel_rfl) rfl #[.pointer (some ⟨g, 0, none⟩)] (by rfl) rfl rfl (by simp only [List.map_toArray, List.map_cons, List.map_nil]; rfl) ?_
               refine (term_calls (w0 := w0) (T := T) (s := s) (n := m + 1) hP3.out.drew (Bel.drew hB3.out) hT).mono ?_
               rw [← hr.out]
               rintro e w4 ⟨rfl, hF4⟩
               refine .inr ⟨_, rfl, ?_⟩
               refine ⟨rfl, ?_⟩
               rw [hE4.out]
               exact ⟨rfl, hF3.out.drew.trans hF4⟩
             | ok r =>
               obtain ⟨c, j⟩ := r
               have hE4 := Aside0.mk (show literalP T s n = .ok (⟨4, Term.z, noStr, [a, c]⟩, j) by rw [hE3.out]; unfold pairP; rw [← hr])
               replace hr := Aside0.mk hr
               refine start_ (n := 8) (S := fun w' => w'.cell? ⟨w.heap.size + 1, 5, none⟩ = some v3) (ds := [7]) #[false,false,false,false,false,false,false,false] rfl rfl rfl c5 (fun hS_ => ?_)
               refine with_tabW rLit17.tab rLit17.bits (fun HT_ HW_ => ?_)
               refine pure_ (i := 0) (N := some 69) (v := ?_) (a' := ?_) #[true,false,false,false,false,false,false,false] rfl rfl (any_of HT_.out (by kernel_rfl)) (fun _ _ _ h => h) (Or.inl ⟨by rfl, ?_⟩) ?_ ?_
               rotate_left; · (intro w'; go_simp; with_reducible rfl)
               rotate_left; · (simp only [Act.put, List.setIfInBounds_toArray, List.set_cons_zero, List.set_cons_succ]; rfl)
               refine take_ (i := 1) (N := some 70) (v := ?_) (a' := ?_) #[true,true,false,false,false,false,false,false] rfl rfl (take_ofW HT_.out HW_.out (by kernel_rfl)) (fun _ _ _ h => h) (Or.inl ⟨by rfl, ?_⟩) hS_ ?_ ?_
               rotate_left; · (rintro w' s0; go_simp; with_reducible rfl)
               rotate_left; · (simp only [Act.put, List.setIfInBounds_toArray, List.set_cons_zero, List.set_cons_succ]; rfl)
               refine pure_ (i := 2) (N := some 71) (v := ?_) (a' := ?_) #[true,true,true,false,false,false,false,false] rfl rfl (any_of HT_.out (by kernel_rfl)) (fun _ _ _ h => h) (Or.inl ⟨by rfl, ?_⟩) ?_ ?_
               rotate_left; · (intro w'; go_simp; with_reducible rfl)
               rotate_left; · (simp only [Act.put, List.setIfInBounds_toArray, List.set_cons_zero, List.set_cons_succ]; rfl)
               refine one_ (i := 3) (N := some 72) #[true,true,true,true,false,false,false,false] rfl rfl (one_of HT_.out (by kernel_rfl)) (by decide) (fun K hK => ?_)
               refine goesP Try.func66 (by kernel_rfl) rfl #[.pointer (some ⟨g, 0, none⟩)] (by rfl) rfl rfl (by simp only [List.map_toArray, List.map_cons, List.map_nil]; rfl) ?_
               refine (term_calls (w0 := w0) (T := T) (s := s) (n := m + 1) hP3.out.drew (Bel.drew hB3.out) hT).mono ?_
               rw [← hr.out]
               rintro e w4 ⟨⟨v1, rfl, rfl⟩, hP4, hF4⟩
               refine .inl ⟨_, rfl, ?_⟩
               refine hK.out _ _ (hF4.cell (p := ⟨w.heap.size + 1, 5, none⟩) hS_ (by simp; omega)) (fun hS_ => ?_)
               clear hK K
               refine norm_ (a' := ?_) ?_ ?_
               rotate_left; · (show Act.put _ (some 72) _ = _; simp only [Act.put, List.setIfInBounds_toArray, List.set_cons_zero, List.set_cons_succ]; rfl)
               refine one_ (i := 4) (N := some 73) #[true,true,true,true,true,false,false,false] rfl rfl (one_of HT_.out (by kernel_rfl)) (by decide) (fun K hK => ?_)
               refine value_ (w1 := ?_) (v := ?_) (by rfl) rfl ?_ ?_
               rotate_left 2; · (go_simp; constructor; rfl; rfl)
               refine hK.out _ _ (cell_alloc hS_ _) (fun hS_ => ?_)
               clear hK K
               refine norm_ (a' := ?_) ?_ ?_
               rotate_left; · (show Act.put _ (some 73) _ = _; simp only [Act.put, List.setIfInBounds_toArray, List.set_cons_zero, List.set_cons_succ]; rfl)
               refine one_ (i := 5) (N := some 74) #[true,true,true,true,true,true,false,false] rfl rfl (one_of HT_.out (by kernel_rfl)) (by decide) (fun K hK => ?_)
               refine Kd.R_append_step kTerm (w0 := w4) (w.heap.size + 2) (by rfl) (.tmp 70) (.tmp 73) 26 25 (.agg #[.string ⟨#[]⟩, .string ⟨#[]⟩, .int .i64 0]) 40 (by rfl) Try.underlying26 info_term (by rfl) (by decide) (by omega) v3 [a] c [.string c.var, .string c.val.sym, .int .i64 c.val.num] (fun q => w.heap.size + 2 ≤ q) (fun _ => False) (by rfl) (by rfl) (kTerm_mkM _ _ _ c) (fun _ hk => hk.elim) (fun _ hk => Nat.le_trans (Nat.le_trans hz3 hF4.size) hk) (hF4.R (Kd.R_drew hR3.out) (fun q hq e => by have : q = g := e; omega)) (Below.refl _ _) (Nat.le_trans hz3 hF4.size) (by simp) ?_
               intro v5 w5 hR5 hB5 hg5 hat5
               obtain ⟨gg, cap, rfl, hgg⟩ := Kd.R_form hR5 (by simp)
               have bk5 : ∀ x o, w3.heap[x]? = some o → x ≠ g → x < w.heap.size + 2 → w5.heap[x]? = some o := fun x o ho hx hxB => (hg5.block x (Nat.lt_of_lt_of_le (blk_lt ho) hF4.size) (fun e => absurd (hR3.out.1 x e.symm) (Nat.not_le.mpr hxB))).trans (hF4.blk (blk_drew ho) hx)
               have hL5 := Aside0.mk (bk5 _ _ hL3.out (by omega) (by omega))
               have hD5 := Aside0.mk (bk5 _ _ hD3.out (by omega) (by omega))
               have hg5g : w5.heap[g]? = w4.heap[g]? := hg5.block g hP4.lt (fun e => absurd (hR3.out.1 g e.symm) (by omega))
               have hP5 : Aside0 (PAt w0 T s w5 g _) := ⟨by obtain ⟨A, c, hx, rr⟩ := hP4; exact ⟨A, c, hg5g.trans hx, rr⟩⟩
               have hF5 := Aside0.mk ((hF3.out.drew.trans hF4).step (Fr.of_grown hg5 (S := fun q => w.heap.size + 2 ≤ q) (fun q e => Or.inl (hR3.out.1 q e))) (fun q hq => Or.inr (by omega)))
               have hz5 : w4.heap.size ≤ w5.heap.size := hg5.size
               have hR5 := Aside0.mk hR5
               clear bk5 hg5g hg5 hB5 hat5 hgg
               refine hK.out _ _ ((blk_cell hL5.out 5).trans rfl) (fun hS_ => ?_)
               clear hK K
               refine norm_ (a' := ?_) ?_ ?_
               rotate_left; · (show Act.put _ (some 74) _ = _; simp only [Act.put, List.setIfInBounds_toArray, List.set_cons_zero, List.set_cons_succ]; rfl)
               refine pure_ (i := 6) (N := some 75) (v := ?_) (a' := ?_) #[true,true,true,true,true,true,true,false] rfl rfl (any_of HT_.out (by kernel_rfl)) (fun _ _ _ h => h) (Or.inl ⟨by rfl, ?_⟩) ?_ ?_
               rotate_left; · (intro w'; go_simp; with_reducible rfl)
               rotate_left; · (simp only [Act.put, List.setIfInBounds_toArray, List.set_cons_zero, List.set_cons_succ]; rfl)
               refine last_ (i := 7) (N := none) #[true,true,true,true,true,true,true,true] rfl rfl (one_of HT_.out (by kernel_rfl)) (by decide) (fun K hK => ?_)
               have e5 : w5.cell? ⟨w.heap.size + 1, 5, none⟩ = some v3 := (blk_cell hL5.out 5).trans rfl
               have f5 : w5.frozen? ⟨w.heap.size + 1, 5, none⟩ = false := blk_frozen hL5.out 5
               refine skip_ (w1 := ?_) (by rfl) rfl ?_ ?_
               rotate_left; · (go_simp; rfl)
               refine hK.out _ _ ?_
               clear hK K
               refine wpAnyLast_done (by kernel_rfl) ?_ _
               have hS5 := LitSt.app hB0.out hgw hg0 hP5.out hF5.out hL5.out hD5.out hR5.out (Nat.le_trans (Nat.le_trans hz3 hF4.size) hz5)
               refine then_world (fun w' => LitSt w0 T s g w j 4 _ [a, c] w') hS5 (fun w3 hS3 => ?_)
               replace hS3 := Aside0.mk hS3
               have hz9 := blk_lt hS3.out.d
               have e0 : w3.cell? ⟨w.heap.size + 1, 0, none⟩ = some (.int .u8 (⟨4, Term.z, noStr, [a, c]⟩ : Lit).kind) := (blk_cell hS3.out.l 0).trans rfl
               have e1 : w3.cell? ⟨w.heap.size + 1, 1, none⟩ = some (.string (⟨4, Term.z, noStr, [a, c]⟩ : Lit).who.var) := (blk_cell hS3.out.l 1).trans rfl
               have e2 : w3.cell? ⟨w.heap.size + 1, 2, none⟩ = some (.string (⟨4, Term.z, noStr, [a, c]⟩ : Lit).who.val.sym) := (blk_cell hS3.out.l 2).trans rfl
               have e3 : w3.cell? ⟨w.heap.size + 1, 3, none⟩ = some (.int .i64 (⟨4, Term.z, noStr, [a, c]⟩ : Lit).who.val.num) := (blk_cell hS3.out.l 3).trans rfl
               have e4 : w3.cell? ⟨w.heap.size + 1, 4, none⟩ = some (.string (⟨4, Term.z, noStr, [a, c]⟩ : Lit).pred) := (blk_cell hS3.out.l 4).trans rfl
               have e5 : w3.cell? ⟨w.heap.size + 1, 5, none⟩ = some (.slice (some ⟨gg, 0, none⟩) 2 cap) := (blk_cell hS3.out.l 5).trans rfl
               have d0 : w3.cell? ⟨w.heap.size, 0, none⟩ = some (.int .u8 0) := (blk_cell hS3.out.d 0).trans rfl
               have d1 : w3.cell? ⟨w.heap.size, 1, none⟩ = some (.string ⟨#[]⟩) := (blk_cell hS3.out.d 1).trans rfl
               have d2 : w3.cell? ⟨w.heap.size, 2, none⟩ = some (.string ⟨#[]⟩) := (blk_cell hS3.out.d 2).trans rfl
               have d3 : w3.cell? ⟨w.heap.size, 3, none⟩ = some (.int .i64 0) := (blk_cell hS3.out.d 3).trans rfl
               have d4 : w3.cell? ⟨w.heap.size, 4, none⟩ = some (.string ⟨#[]⟩) := (blk_cell hS3.out.d 4).trans rfl
               have d5 : w3.cell? ⟨w.heap.size, 5, none⟩ = some (.slice none 0 0) := (blk_cell hS3.out.d 5).trans rfl
               have f0 := blk_frozen hS3.out.d 0
               have f1 := blk_frozen hS3.out.d 1
               have f2 := blk_frozen hS3.out.d 2
               have f3 := blk_frozen hS3.out.d 3
               have f4 := blk_frozen hS3.out.d 4
               have f5 := blk_frozen hS3.out.d 5
               go_wp2
               exact lit_end (l := ⟨4, Term.z, noStr, [a, c]⟩) (av := .slice (some ⟨gg, 0, none⟩) 2 cap) rfl rfl hS3.out.d (Kd.R_lower hS3.out.r (by omega)) hS3.out.p hS3.out.f hgw hE4.out
       · replace hb1 := Aside0.mk hb1
         replace hy := Aside0.mk hy
         go_enter Try.func36, Try.ntmps36
         go_wp2_with fail
         refine (is_calls 0 n nots (by omega) hS0.out.p hS0.out.b hT (by omega)).mono ?_; rintro e w1 ⟨rfl, hd⟩
         rw [hn.out]
         have hS1 := Aside0.mk (hS0.out.drawn hd)
         clear hd hS0
         go_wp2_with fail
         refine (kind_calls hS1.out.p hS1.out.b).mono ?_; rintro e w2 ⟨rfl, hd⟩
         have hS2 := Aside0.mk (hS1.out.drawn hd)
         clear hd hS1
         go_wp2_with fail
         refine (is_calls 1 (n + 1) less (by omega) hS2.out.p hS2.out.b hT (by omega)).mono ?_; rintro e w3 ⟨rfl, hd⟩
         rw [hb1.out]
         have hS3 := Aside0.mk (hS2.out.drawn hd)
         clear hd hS2
         go_wp2_with fail
         refine (is_calls 1 (n + 1) says (by omega) hS3.out.p hS3.out.b hT (by omega)).mono ?_; rintro e w4 ⟨rfl, hd⟩
         rw [hy.out]
         have hS4 := Aside0.mk (hS3.out.drawn hd)
         clear hd hS3
         have e0 : w4.cell? ⟨w.heap.size + 1, 0, none⟩ = some (.int .u8 1) := (blk_cell hS4.out.l 0).trans rfl
         have f0 := blk_frozen hS4.out.l 0
         go_wp2_with fail
         obtain ⟨v3, hv3⟩ : ∃ v3, v3 = Value.slice none 0 0 := ⟨_, rfl⟩
         refine wp_world (fun w' => LitSt w0 T s g w n 3 v3 [] w') (by rw [hv3]; exact hS4.out.kind hgw hBz 3) (fun w3 hS3 => ?_)
         replace hS3 := Aside0.mk hS3
         clear hS4 e0 f0 hv3
         have hP3 := Aside0.mk hS3.out.p
         have hB3 := Aside0.mk hS3.out.b
         have hF3 := Aside0.mk hS3.out.f
         have hL3 := Aside0.mk hS3.out.l
         have hD3 := Aside0.mk hS3.out.d
         have hR3 := Aside0.mk hS3.out.r
         have hz3 := hS3.out.z
         have c5 : w3.cell? ⟨w.heap.size + 1, 5, none⟩ = some v3 := (blk_cell hL3.out 5).trans rfl
         obtain ⟨r, hr⟩ : ∃ r, r = termP T s n := ⟨_, rfl⟩
         cases r with
         | error p =>
           have hE2 := Aside0.mk (show literalP T s n = .error p by rw [hE.out, ← hr])
           replace hr := Aside0.mk hr
           refine start_ (n := 8) (S := fun w' => w'.cell? ⟨w.heap.size + 1, 5, none⟩ = some v3) (ds := [7]) #[false,false,false,false,false,false,false,false] rfl rfl rfl c5 (fun hS_ => ?_)
           refine with_tabW rLit11.tab rLit11.bits (fun HT_ HW_ => ?_)
           refine pure_ (i := 0) (N := some 47) (v := ?_) (a' := ?_) #[true,false,false,false,false,false,false,false] rfl rfl (any_of HT_.out (by kernel_rfl)) (fun _ _ _ h => h) (Or.inl ⟨by rfl, ?_⟩) ?_ ?_
           rotate_left; · (intro w'; go_simp; with_reducible rfl)
           rotate_left; · (simp only [Act.put, List.setIfInBounds_toArray, List.set_cons_zero, List.set_cons_succ]; rfl)
           refine take_ (i := 1) (N := some 48) (v := ?_) (a' := ?_) #[true,true,false,false,false,false,false,false] rfl rfl (take_ofW HT_.out HW_.out (by kernel_rfl)) (fun _ _ _ h => h) (Or.inl ⟨by rfl, ?_⟩) hS_ ?_ ?_
           rotate_left; · (rintro w' s0; go_simp; with_reducible rfl)
           rotate_left; · (simp only [Act.put, List.setIfInBounds_toArray, List.set_cons_zero, List.set_cons_succ]; rfl)
           refine pure_ (i := 2) (N := some 49) (v := ?_) (a' := ?_) #[true,true,true,false,false,false,false,false] rfl rfl (any_of HT_.out (by kernel_rfl)) (fun _ _ _ h => h) (Or.inl ⟨by rfl, ?_⟩) ?_ ?_
           rotate_left; · (intro w'; go_simp; with_reducible rfl)
           rotate_left; · (simp only [Act.put, List.setIfInBounds_toArray, List.set_cons_zero, List.set_cons_succ]; rfl)
           refine one_ (i := 3) (N := some 50) #[true,true,true,true,false,false,false,false] rfl rfl (one_of HT_.out (by kernel_rfl)) (by decide) (fun K hK => ?_)
           refine goesP Try.func66 (by kernel_rfl) rfl #[.pointer (some ⟨g, 0, none⟩)] (by rfl) rfl rfl (by simp only [List.map_toArray, List.map_cons, List.map_nil]; rfl) ?_
           refine (term_calls (w0 := w0) (T := T) (s := s) (n := n) hP3.out.drew (Bel.drew hB3.out) hT).mono ?_
           rw [← hr.out]
           rintro e w4 ⟨rfl, hF4⟩
           refine .inr ⟨_, rfl, ?_⟩
           refine ⟨rfl, ?_⟩
           rw [hE2.out]
           exact ⟨rfl, hF3.out.drew.trans hF4⟩
         | ok r =>
           obtain ⟨a, m⟩ := r
           have hE2 := Aside0.mk (show literalP T s n = if isT T s m unlike then pairP T s 4 a m else if isT T s m less then pairP T s 3 a m else .error (posOf T s m, 6) by rw [hE.out, ← hr])
           replace hr := Aside0.mk hr
           refine start_ (n := 8) (S := fun w' => w'.cell? ⟨w.heap.size + 1, 5, none⟩ = some v3) (ds := [7]) #[false,false,false,false,false,false,false,false] rfl rfl rfl c5 (fun hS_ => ?_)
           refine with_tabW rLit11.tab rLit11.bits (fun HT_ HW_ => ?_)
           refine pure_ (i := 0) (N := some 47) (v := ?_) (a' := ?_) #[true,false,false,false,false,false,false,false] rfl rfl (any_of HT_.out (by kernel_rfl)) (fun _ _ _ h => h) (Or.inl ⟨by rfl, ?_⟩) ?_ ?_
           rotate_left; · (intro w'; go_simp; with_reducible rfl)
           rotate_left; · (simp only [Act.put, List.setIfInBounds_toArray, List.set_cons_zero, List.set_cons_succ]; rfl)
           refine take_ (i := 1) (N := some 48) (v := ?_) (a' := ?_) #[true,true,false,false,false,false,false,false] rfl rfl (take_ofW HT_.out HW_.out (by kernel_rfl)) (fun _ _ _ h => h) (Or.inl ⟨by rfl, ?_⟩) hS_ ?_ ?_
           rotate_left; · (rintro w' s0; go_simp; with_reducible rfl)
           rotate_left; · (simp only [Act.put, List.setIfInBounds_toArray, List.set_cons_zero, List.set_cons_succ]; rfl)
           refine pure_ (i := 2) (N := some 49) (v := ?_) (a' := ?_) #[true,true,true,false,false,false,false,false] rfl rfl (any_of HT_.out (by kernel_rfl)) (fun _ _ _ h => h) (Or.inl ⟨by rfl, ?_⟩) ?_ ?_
           rotate_left; · (intro w'; go_simp; with_reducible rfl)
           rotate_left; · (simp only [Act.put, List.setIfInBounds_toArray, List.set_cons_zero, List.set_cons_succ]; rfl)
           refine one_ (i := 3) (N := some 50) #[true,true,true,true,false,false,false,false] rfl rfl (one_of HT_.out (by kernel_rfl)) (by decide) (fun K hK => ?_)
           refine goesP Try.func66 (by kernel_rfl) rfl #[.pointer (some ⟨g, 0, none⟩)] (by rfl) rfl rfl (by simp only [List.map_toArray, List.map_cons, List.map_nil]; rfl) ?_
           refine (term_calls (w0 := w0) (T := T) (s := s) (n := n) hP3.out.drew (Bel.drew hB3.out) hT).mono ?_
           rw [← hr.out]
           rintro e w4 ⟨⟨v1, rfl, rfl⟩, hP4, hF4⟩
           refine .inl ⟨_, rfl, ?_⟩
           refine hK.out _ _ (hF4.cell (p := ⟨w.heap.size + 1, 5, none⟩) hS_ (by simp; omega)) (fun hS_ => ?_)
           clear hK K
           refine norm_ (a' := ?_) ?_ ?_
           rotate_left; · (show Act.put _ (some 50) _ = _; simp only [Act.put, List.setIfInBounds_toArray, List.set_cons_zero, List.set_cons_succ]; rfl)
           refine one_ (i := 4) (N := some 51) #[true,true,true,true,true,false,false,false] rfl rfl (one_of HT_.out (by kernel_rfl)) (by decide) (fun K hK => ?_)
           refine value_ (w1 := ?_) (v := ?_) (by rfl) rfl ?_ ?_
           rotate_left 2; · (go_simp; constructor; rfl; rfl)
           refine hK.out _ _ (cell_alloc hS_ _) (fun hS_ => ?_)
           clear hK K
           refine norm_ (a' := ?_) ?_ ?_
           rotate_left; · (show Act.put _ (some 51) _ = _; simp only [Act.put, List.setIfInBounds_toArray, List.set_cons_zero, List.set_cons_succ]; rfl)
           refine one_ (i := 5) (N := some 52) #[true,true,true,true,true,true,false,false] rfl rfl (one_of HT_.out (by kernel_rfl)) (by decide) (fun K hK => ?_)
           refine Kd.R_append_step kTerm (w0 := w4) (w.heap.size + 2) (by rfl) (.tmp 48) (.tmp 51) 26 25 (.agg #[.string ⟨#[]⟩, .string ⟨#[]⟩, .int .i64 0]) 40 (by rfl) Try.underlying26 info_term (by rfl) (by decide) (by omega) v3 [] a [.string a.var, .string a.val.sym, .int .i64 a.val.num] (fun q => w.heap.size + 2 ≤ q) (fun _ => False) (by rfl) (by rfl) (kTerm_mkM _ _ _ a) (fun _ hk => hk.elim) (fun _ hk => Nat.le_trans (Nat.le_trans hz3 hF4.size) hk) (hF4.R (Kd.R_drew hR3.out) (fun q hq e => by have : q = g := e; omega)) (Below.refl _ _) (Nat.le_trans hz3 hF4.size) (by simp) ?_
           intro v5 w5 hR5 hB5 hg5 hat5
           obtain ⟨gg, cap, rfl, hgg⟩ := Kd.R_form hR5 (by simp)
           have bk5 : ∀ x o, w3.heap[x]? = some o → x ≠ g → x < w.heap.size + 2 → w5.heap[x]? = some o := fun x o ho hx hxB => (hg5.block x (Nat.lt_of_lt_of_le (blk_lt ho) hF4.size) (fun e => absurd (hR3.out.1 x e.symm) (Nat.not_le.mpr hxB))).trans (hF4.blk (blk_drew ho) hx)
           have hL5 := Aside0.mk (bk5 _ _ hL3.out (by omega) (by omega))
           have hD5 := Aside0.mk (bk5 _ _ hD3.out (by omega) (by omega))
           have hg5g : w5.heap[g]? = w4.heap[g]? := hg5.block g hP4.lt (fun e => absurd (hR3.out.1 g e.symm) (by omega))
           have hP5 : Aside0 (PAt w0 T s w5 g _) := ⟨by obtain ⟨A, c, hx, rr⟩ := hP4; exact ⟨A, c, hg5g.trans hx, rr⟩⟩
           have hF5 := Aside0.mk ((hF3.out.drew.trans hF4).step (Fr.of_grown hg5 (S := fun q => w.heap.size + 2 ≤ q) (fun q e => Or.inl (hR3.out.1 q e))) (fun q hq => Or.inr (by omega)))
           have hz5 : w4.heap.size ≤ w5.heap.size := hg5.size
           have hR5 := Aside0.mk hR5
           clear bk5 hg5g hg5 hB5 hat5 hgg
           refine hK.out _ _ ((blk_cell hL5.out 5).trans rfl) (fun hS_ => ?_)
           clear hK K
           refine norm_ (a' := ?_) ?_ ?_
           rotate_left; · (show Act.put _ (some 52) _ = _; simp only [Act.put, List.setIfInBounds_toArray, List.set_cons_zero, List.set_cons_succ]; rfl)
           refine pure_ (i := 6) (N := some 53) (v := ?_) (a' := ?_) #[true,true,true,true,true,true,true,false] rfl rfl (any_of HT_.out (by kernel_rfl)) (fun _ _ _ h => h) (Or.inl ⟨by rfl, ?_⟩) ?_ ?_
           rotate_left; · (intro w'; go_simp; with_reducible rfl)
           rotate_left; · (simp only [Act.put, List.setIfInBounds_toArray, List.set_cons_zero, List.set_cons_succ]; rfl)
           refine last_ (i := 7) (N := none) #[true,true,true,true,true,true,true,true] rfl rfl (one_of HT_.out (by kernel_rfl)) (by decide) (fun K hK => ?_)
           have e5 : w5.cell? ⟨w.heap.size + 1, 5, none⟩ = some v3 := (blk_cell hL5.out 5).trans rfl
           have f5 : w5.frozen? ⟨w.heap.size + 1, 5, none⟩ = false := blk_frozen hL5.out 5
           refine skip_ (w1 := ?_) (by rfl) rfl ?_ ?_
           rotate_left; · (go_simp; rfl)
           refine hK.out _ _ ?_
           clear hK K
           refine wpAnyLast_done (by kernel_rfl) ?_ _
           have hS5 := LitSt.app hB0.out hgw hg0 hP5.out hF5.out hL5.out hD5.out hR5.out (Nat.le_trans (Nat.le_trans hz3 hF4.size) hz5)
           refine then_world (fun w' => LitSt w0 T s g w m 3 _ [a] w') hS5 (fun w3 hS3 => ?_)
           replace hS3 := Aside0.mk hS3
           have hmx := hS3.out.p.max
           clear hP3 hB3 hF3 hL3 hD3 hR3 hr hP4 hF4 hP5 hF5 hL5 hD5 hR5 hS_ HT_ HW_ c5
           skip
           cases hu : isT T s m unlike
           · cases hl : isT T s m less
             · have hE3 := Aside0.mk (show literalP T s n = .error (posOf T s m, 6) by rw [hE2.out, hu, hl]; rfl)
               replace hu := Aside0.mk hu
               replace hl := Aside0.mk hl
               go_wp2_with fail
               refine (is_calls 0 m unlike (by omega) hS3.out.p hS3.out.b hT (by omega)).mono ?_; rintro e w7 ⟨rfl, hd⟩
               rw [hu.out]
               have hS7 := Aside0.mk (hS3.out.drawn hd)
               clear hd hS3
               go_wp2_with fail
               refine (is_calls 0 m less (by omega) hS7.out.p hS7.out.b hT (by omega)).mono ?_; rintro e w8 ⟨rfl, hd⟩
               rw [hl.out]
               have hS8 := Aside0.mk (hS7.out.drawn hd)
               clear hd hS7
               go_wp2_with fail
               refine (fail_calls 6 hS8.out.p hS8.out.b).mono ?_; rintro e w9 ⟨rfl, hd⟩
               go_wp2
               refine ⟨rfl, ?_⟩
               rw [hE3.out]
               exact ⟨rfl, hS8.out.f.drawn hd⟩
             · have hE3 := Aside0.mk (show literalP T s n = pairP T s 3 a m by rw [hE2.out, hu, hl]; rfl)
               have hlt := isT_lt hl
               replace hu := Aside0.mk hu
               replace hl := Aside0.mk hl
               go_wp2_with fail
               refine (is_calls 0 m unlike (by omega) hS3.out.p hS3.out.b hT (by omega)).mono ?_; rintro e w7 ⟨rfl, hd⟩
               rw [hu.out]
               have hS7 := Aside0.mk (hS3.out.drawn hd)
               clear hd hS3
               go_wp2_with fail
               refine (is_calls 0 m less (by omega) hS7.out.p hS7.out.b hT (by omega)).mono ?_; rintro e w8 ⟨rfl, hd⟩
               rw [hl.out]
               have hS8 := Aside0.mk (hS7.out.drawn hd)
               clear hd hS7
               have e0 : w8.cell? ⟨w.heap.size + 1, 0, none⟩ = some (.int .u8 3) := (blk_cell hS8.out.l 0).trans rfl
               have f0 := blk_frozen hS8.out.l 0
               obtain ⟨A1, c1, p0, p1, p2, q2, hm, _, _⟩ := hS8.out.p.cells
               go_wp2_with fail
               obtain ⟨v3, hv3⟩ : ∃ v3, LitSt w0 T s g w m 3 v3 [a] w8 := ⟨_, hS8.out⟩
               refine wp_world (fun w' => LitSt w0 T s g w (m + 1) 3 v3 [a] w') (hv3.to hgw (m + 1) ((m : Int) + 1) (by omega) (by omega)) (fun w3 hS3 => ?_)
               replace hS3 := Aside0.mk hS3
               clear hS8 e0 f0 p0 p1 p2 q2 hE2 hv3
               have hP3 := Aside0.mk hS3.out.p
               have hB3 := Aside0.mk hS3.out.b
               have hF3 := Aside0.mk hS3.out.f
               have hL3 := Aside0.mk hS3.out.l
               have hD3 := Aside0.mk hS3.out.d
               have hR3 := Aside0.mk hS3.out.r
               have hz3 := hS3.out.z
               have c5 : w3.cell? ⟨w.heap.size + 1, 5, none⟩ = some v3 := (blk_cell hL3.out 5).trans rfl
               obtain ⟨r, hr⟩ : ∃ r, r = termP T s (m + 1) := ⟨_, rfl⟩
               cases r with
               | error p =>
                 have hE4 := Aside0.mk (show literalP T s n = .error p by rw [hE3.out]; unfold pairP; rw [← hr])
                 replace hr := Aside0.mk hr
                 refine start_ (n := 8) (S := fun w' => w'.cell? ⟨w.heap.size + 1, 5, none⟩ = some v3) (ds := [7]) #[false,false,false,false,false,false,false,false] rfl rfl rfl c5 (fun hS_ => ?_)
                 refine with_tabW rLit17.tab rLit17.bits (fun HT_ HW_ => ?_)
                 refine pure_ (i := 0) (N := some 69) (v := ?_) (a' := ?_) #[true,false,false,false,false,false,false,false] rfl rfl (any_of HT_.out (by kernel_rfl)) (fun _ _ _ h => h) (Or.inl ⟨by rfl, ?_⟩) ?_ ?_
                 rotate_left; · (intro w'; go_simp; with_reducible rfl)
                 rotate_left; · (simp only [Act.put, List.setIfInBounds_toArray, List.set_cons_zero, List.set_cons_succ]; rfl)
                 refine take_ (i := 1) (N := some 70) (v := ?_) (a' := ?_) #[true,true,false,false,false,false,false,false] rfl rfl (take_ofW HT_.out HW_.out (by kernel_rfl)) (fun _ _ _ h => h) (Or.inl ⟨by rfl, ?_⟩) hS_ ?_ ?_
                 rotate_left; · (rintro w' s0; go_simp; with_reducible rfl)
                 rotate_left; · (simp only [Act.put, List.setIfInBounds_toArray, List.set_cons_zero, List.set_cons_succ]; rfl)
                 refine pure_ (i := 2) (N := some 71) (v := ?_) (a' := ?_) #[true,true,true,false,false,false,false,false] rfl rfl (any_of HT_.out (by kernel_rfl)) (fun _ _ _ h => h) (Or.inl ⟨by rfl, ?_⟩) ?_ ?_
                 rotate_left; · (intro w'; go_simp; with_reducible rfl)
                 rotate_left; · (simp only [Act.put, List.setIfInBounds_toArray, List.set_cons_zero, List.set_cons_succ]; rfl)
                 refine one_ (i := 3) (N := some 72) #[true,true,true,true,false,false,false,false] rfl rfl (one_of HT_.out (by kernel_rfl)) (by decide) (fun K hK => ?_)
                 refine goesP Try.func66 (by kernel_rfl) rfl #[.pointer (some ⟨g, 0, none⟩)] (by rfl) rfl rfl (by simp only [List.map_toArray, List.map_cons, List.map_nil]; rfl) ?_
                 refine (term_calls (w0 := w0) (T := T) (s := s) (n := m + 1) hP3.out.drew (Bel.drew hB3.out) hT).mono ?_
                 rw [← hr.out]
                 rintro e w4 ⟨rfl, hF4⟩
                 refine .inr ⟨_, rfl, ?_⟩
                 refine ⟨rfl, ?_⟩
                 rw [hE4.out]
                 exact ⟨rfl, hF3.out.drew.trans hF4⟩
               | ok r =>
                 obtain ⟨c, j⟩ := r
                 have hE4 := Aside0.mk (show literalP T s n = .ok (⟨3, Term.z, noStr, [a, c]⟩, j) by rw [hE3.out]; unfold pairP; rw [← hr])
                 replace hr := Aside0.mk hr
                 refine start_ (n := 8) (S := fun w' => w'.cell? ⟨w.heap.size + 1, 5, none⟩ = some v3) (ds := [7]) #[false,false,false,false,false,false,false,false] rfl rfl rfl c5 (fun hS_ => ?_)
                 refine with_tabW rLit17.tab rLit17.bits (fun HT_ HW_ => ?_)
                 refine pure_ (i := 0) (N := some 69) (v := ?_) (a' := ?_) #[true,false,false,false,false,false,false,false] rfl rfl (any_of HT_.out (by kernel_rfl)) (fun _ _ _ h => h) (Or.inl ⟨by rfl, ?_⟩) ?_ ?_
                 rotate_left; · (intro w'; go_simp; with_reducible rfl)
                 rotate_left; · (simp only [Act.put, List.setIfInBounds_toArray, List.set_cons_zero, List.set_cons_succ]; rfl)
                 refine take_ (i := 1) (N := some 70) (v := ?_) (a' := ?_) #[true,true,false,false,false,false,false,false] rfl rfl (take_ofW HT_.out HW_.out (by kernel_rfl)) (fun _ _ _ h => h) (Or.inl ⟨by rfl, ?_⟩) hS_ ?_ ?_
                 rotate_left; · (rintro w' s0; go_simp; with_reducible rfl)
                 rotate_left; · (simp only [Act.put, List.setIfInBounds_toArray, List.set_cons_zero, List.set_cons_succ]; rfl)
                 refine pure_ (i := 2) (N := some 71) (v := ?_) (a' := ?_) #[true,true,true,false,false,false,false,false] rfl rfl (any_of HT_.out (by kernel_rfl)) (fun _ _ _ h => h) (Or.inl ⟨by rfl, ?_⟩) ?_ ?_
                 rotate_left; · (intro w'; go_simp; with_reducible rfl)
                 rotate_left; · (simp only [Act.put, List.setIfInBounds_toArray, List.set_cons_zero, List.set_cons_succ]; rfl)
                 refine one_ (i := 3) (N := some 72) #[true,true,true,true,false,false,false,false] rfl rfl (one_of HT_.out (by kernel_rfl)) (by decide) (fun K hK => ?_)
                 refine goesP Try.func66 (by kernel_rfl) rfl #[.pointer (some ⟨g, 0, none⟩)] (by rfl) rfl rfl (by simp only [List.map_toArray, List.map_cons, List.map_nil]; rfl) ?_
                 refine (term_calls (w0 := w0) (T := T) (s := s) (n := m + 1) hP3.out.drew (Bel.drew hB3.out) hT).mono ?_
                 rw [← hr.out]
                 rintro e w4 ⟨⟨v1, rfl, rfl⟩, hP4, hF4⟩
                 refine .inl ⟨_, rfl, ?_⟩
                 refine hK.out _ _ (hF4.cell (p := ⟨w.heap.size + 1, 5, none⟩) hS_ (by simp; omega)) (fun hS_ => ?_)
                 clear hK K
                 refine norm_ (a' := ?_) ?_ ?_
                 rotate_left; · (show Act.put _ (some 72) _ = _; simp only [Act.put, List.setIfInBounds_toArray, List.set_cons_zero, List.set_cons_succ]; rfl)
                 refine one_ (i := 4) (N := some 73) #[true,true,true,true,true,false,false,false] rfl rfl (one_of HT_.out (by kernel_rfl)) (by decide) (fun K hK => ?_)
                 refine value_ (w1 := ?_) (v := ?_) (by rfl) rfl ?_ ?_
                 rotate_left 2; · (go_simp; constructor; rfl; rfl)
                 refine hK.out _ _ (cell_alloc hS_ _) (fun hS_ => ?_)
                 clear hK K
                 refine norm_ (a' := ?_) ?_ ?_
                 rotate_left; · (show Act.put _ (some 73) _ = _; simp only [Act.put, List.setIfInBounds_toArray, List.set_cons_zero, List.set_cons_succ]; rfl)
                 refine one_ (i := 5) (N := some 74) #[true,true,true,true,true,true,false,false] rfl rfl (one_of HT_.out (by kernel_rfl)) (by decide) (fun K hK => ?_)
                 refine Kd.R_append_step kTerm (w0 := w4) (w.heap.size + 2) (by rfl) (.tmp 70) (.tmp 73) 26 25 (.agg #[.string ⟨#[]⟩, .string ⟨#[]⟩, .int .i64 0]) 40 (by rfl) Try.underlying26 info_term (by rfl) (by decide) (by omega) v3 [a] c [.string c.var, .string c.val.sym, .int .i64 c.val.num] (fun q => w.heap.size + 2 ≤ q) (fun _ => False) (by rfl) (by rfl) (kTerm_mkM _ _ _ c) (fun _ hk => hk.elim) (fun _ hk => Nat.le_trans (Nat.le_trans hz3 hF4.size) hk) (hF4.R (Kd.R_drew hR3.out) (fun q hq e => by have : q = g := e; omega)) (Below.refl _ _) (Nat.le_trans hz3 hF4.size) (by simp) ?_
                 intro v5 w5 hR5 hB5 hg5 hat5
                 obtain ⟨gg, cap, rfl, hgg⟩ := Kd.R_form hR5 (by simp)
                 have bk5 : ∀ x o, w3.heap[x]? = some o → x ≠ g → x < w.heap.size + 2 → w5.heap[x]? = some o := fun x o ho hx hxB => (hg5.block x (Nat.lt_of_lt_of_le (blk_lt ho) hF4.size) (fun e => absurd (hR3.out.1 x e.symm) (Nat.not_le.mpr hxB))).trans (hF4.blk (blk_drew ho) hx)
                 have hL5 := Aside0.mk (bk5 _ _ hL3.out (by omega) (by omega))
                 have hD5 := Aside0.mk (bk5 _ _ hD3.out (by omega) (by omega))
                 have hg5g : w5.heap[g]? = w4.heap[g]? := hg5.block g hP4.lt (fun e => absurd (hR3.out.1 g e.symm) (by omega))
                 have hP5 : Aside0 (PAt w0 T s w5 g _) := ⟨by obtain ⟨A, c, hx, rr⟩ := hP4; exact ⟨A, c, hg5g.trans hx, rr⟩⟩
                 have hF5 := Aside0.mk ((hF3.out.drew.trans hF4).step (Fr.of_grown hg5 (S := fun q => w.heap.size + 2 ≤ q) (fun q e => Or.inl (hR3.out.1 q e))) (fun q hq => Or.inr (by omega)))
                 have hz5 : w4.heap.size ≤ w5.heap.size := hg5.size
                 have hR5 := Aside0.mk hR5
                 clear bk5 hg5g hg5 hB5 hat5 hgg
                 refine hK.out _ _ ((blk_cell hL5.out 5).trans rfl) (fun hS_ => ?_)
                 clear hK K
                 refine norm_ (a' := ?_) ?_ ?_
                 rotate_left; · (show Act.put _ (some 74) _ = _; simp only [Act.put, List.setIfInBounds_toArray, List.set_cons_zero, List.set_cons_succ]; rfl)
                 refine pure_ (i := 6) (N := some 75) (v := ?_) (a' := ?_) #[true,true,true,true,true,true,true,false] rfl rfl (any_of HT_.out (by kernel_rfl)) (fun _ _ _ h => h) (Or.inl ⟨by rfl, ?_⟩) ?_ ?_
                 rotate_left; · (intro w'; go_simp; with_reducible rfl)
                 rotate_left; · (simp only [Act.put, List.setIfInBounds_toArray, List.set_cons_zero, List.set_cons_succ]; rfl)
                 refine last_ (i := 7) (N := none) #[true,true,true,true,true,true,true,true] rfl rfl (one_of HT_.out (by kernel_rfl)) (by decide) (fun K hK => ?_)
                 have e5 : w5.cell? ⟨w.heap.size + 1, 5, none⟩ = some v3 := (blk_cell hL5.out 5).trans rfl
                 have f5 : w5.frozen? ⟨w.heap.size + 1, 5, none⟩ = false := blk_frozen hL5.out 5
                 refine skip_ (w1 := ?_) (by rfl) rfl ?_ ?_
                 rotate_left; · (go_simp; rfl)
                 refine hK.out _ _ ?_
                 clear hK K
                 refine wpAnyLast_done (by kernel_rfl) ?_ _
                 have hS5 := LitSt.app hB0.out hgw hg0 hP5.out hF5.out hL5.out hD5.out hR5.out (Nat.le_trans (Nat.le_trans hz3 hF4.size) hz5)
                 refine then_world (fun w' => LitSt w0 T s g w j 3 _ [a, c] w') hS5 (fun w3 hS3 => ?_)
                 replace hS3 := Aside0.mk hS3
                 have hz9 := blk_lt hS3.out.d
                 have e0 : w3.cell? ⟨w.heap.size + 1, 0, none⟩ = some (.int .u8 (⟨3, Term.z, noStr, [a, c]⟩ : Lit).kind) := (blk_cell hS3.out.l 0).trans rfl
                 have e1 : w3.cell? ⟨w.heap.size + 1, 1, none⟩ = some (.string (⟨3, Term.z, noStr, [a, c]⟩ : Lit).who.var) := (blk_cell hS3.out.l 1).trans rfl
                 have e2 : w3.cell? ⟨w.heap.size + 1, 2, none⟩ = some (.string (⟨3, Term.z, noStr, [a, c]⟩ : Lit).who.val.sym) := (blk_cell hS3.out.l 2).trans rfl
                 have e3 : w3.cell? ⟨w.heap.size + 1, 3, none⟩ = some (.int .i64 (⟨3, Term.z, noStr, [a, c]⟩ : Lit).who.val.num) := (blk_cell hS3.out.l 3).trans rfl
                 have e4 : w3.cell? ⟨w.heap.size + 1, 4, none⟩ = some (.string (⟨3, Term.z, noStr, [a, c]⟩ : Lit).pred) := (blk_cell hS3.out.l 4).trans rfl
                 have e5 : w3.cell? ⟨w.heap.size + 1, 5, none⟩ = some (.slice (some ⟨gg, 0, none⟩) 2 cap) := (blk_cell hS3.out.l 5).trans rfl
                 have d0 : w3.cell? ⟨w.heap.size, 0, none⟩ = some (.int .u8 0) := (blk_cell hS3.out.d 0).trans rfl
                 have d1 : w3.cell? ⟨w.heap.size, 1, none⟩ = some (.string ⟨#[]⟩) := (blk_cell hS3.out.d 1).trans rfl
                 have d2 : w3.cell? ⟨w.heap.size, 2, none⟩ = some (.string ⟨#[]⟩) := (blk_cell hS3.out.d 2).trans rfl
                 have d3 : w3.cell? ⟨w.heap.size, 3, none⟩ = some (.int .i64 0) := (blk_cell hS3.out.d 3).trans rfl
                 have d4 : w3.cell? ⟨w.heap.size, 4, none⟩ = some (.string ⟨#[]⟩) := (blk_cell hS3.out.d 4).trans rfl
                 have d5 : w3.cell? ⟨w.heap.size, 5, none⟩ = some (.slice none 0 0) := (blk_cell hS3.out.d 5).trans rfl
                 have f0 := blk_frozen hS3.out.d 0
                 have f1 := blk_frozen hS3.out.d 1
                 have f2 := blk_frozen hS3.out.d 2
                 have f3 := blk_frozen hS3.out.d 3
                 have f4 := blk_frozen hS3.out.d 4
                 have f5 := blk_frozen hS3.out.d 5
                 go_wp2
                 exact lit_end (l := ⟨3, Term.z, noStr, [a, c]⟩) (av := .slice (some ⟨gg, 0, none⟩) 2 cap) rfl rfl hS3.out.d (Kd.R_lower hS3.out.r (by omega)) hS3.out.p hS3.out.f hgw hE4.out
           · have hE3 := Aside0.mk (show literalP T s n = pairP T s 4 a m by rw [hE2.out, hu]; rfl)
             have hlt := isT_lt hu
             replace hu := Aside0.mk hu
             go_wp2_with fail
             refine (is_calls 0 m unlike (by omega) hS3.out.p hS3.out.b hT (by omega)).mono ?_; rintro e w7 ⟨rfl, hd⟩
             rw [hu.out]
             have hS7 := Aside0.mk (hS3.out.drawn hd)
             clear hd hS3
             have e0 : w7.cell? ⟨w.heap.size + 1, 0, none⟩ = some (.int .u8 3) := (blk_cell hS7.out.l 0).trans rfl
             have f0 := blk_frozen hS7.out.l 0
             obtain ⟨A1, c1, p0, p1, p2, q2, hm, _, _⟩ := hS7.out.p.cells
             go_wp2_with fail
             obtain ⟨v3, hv3⟩ : ∃ v3, LitSt w0 T s g w m 3 v3 [a] w7 := ⟨_, hS7.out⟩
             refine wp_world (fun w' => LitSt w0 T s g w (m + 1) 4 v3 [a] w') ((hv3.kind hgw hBz 4).to hgw (m + 1) ((m : Int) + 1) (by omega) (by omega)) (fun w3 hS3 => ?_)
             replace hS3 := Aside0.mk hS3
             clear hS7 e0 f0 p0 p1 p2 q2 hE2 hv3
             have hP3 := Aside0.mk hS3.out.p
             have hB3 := Aside0.mk hS3.out.b
             have hF3 := Aside0.mk hS3.out.f
             have hL3 := Aside0.mk hS3.out.l
             have hD3 := Aside0.mk hS3.out.d
             have hR3 := Aside0.mk hS3.out.r
             have hz3 := hS3.out.z
             have c5 : w3.cell? ⟨w.heap.size + 1, 5, none⟩ = some v3 := (blk_cell hL3.out 5).trans rfl
             obtain ⟨r, hr⟩ : ∃ r, r = termP T s (m + 1) := ⟨_, rfl⟩
             cases r with
             | error p =>
               have hE4 := Aside0.mk (show literalP T s n = .error p by rw [hE3.out]; unfold pairP; rw [← hr])
               replace hr := Aside0.mk hr
               refine start_ (n := 8) (S := fun w' => w'.cell? ⟨w.heap.size + 1, 5, none⟩ = some v3) (ds := [7]) #[false,false,false,false,false,false,false,false] rfl rfl rfl c5 (fun hS_ => ?_)
               refine with_tabW rLit17.tab rLit17.bits (fun HT_ HW_ => ?_)
               refine pure_ (i := 0) (N := some 69) (v := ?_) (a' := ?_) #[true,false,false,false,false,false,false,false] rfl rfl (any_of HT_.out (by kernel_rfl)) (fun _ _ _ h => h) (Or.inl ⟨by rfl, ?_⟩) ?_ ?_
               rotate_left; · (intro w'; go_simp; with_reducible rfl)
               rotate_left; · (simp only [Act.put, List.setIfInBounds_toArray, List.set_cons_zero, List.set_cons_succ]; rfl)
               refine take_ (i := 1) (N := some 70) (v := ?_) (a' := ?_) #[true,true,false,false,false,false,false,false] rfl rfl (take_ofW HT_.out HW_.out (by kernel_rfl)) (fun _ _ _ h => h) (Or.inl ⟨by rfl, ?_⟩) hS_ ?_ ?_
               rotate_left; · (rintro w' s0; go_simp; with_reducible rfl)
               rotate_left; · (simp only [Act.put, List.setIfInBounds_toArray, List.set_cons_zero, List.set_cons_succ]; rfl)
               refine pure_ (i := 2) (N := some 71) (v := ?_) (a' := ?_) #[true,true,true,false,false,false,false,false] rfl rfl (any_of HT_.out (by kernel_rfl)) (fun _ _ _ h => h) (Or.inl ⟨by rfl, ?_⟩) ?_ ?_
               rotate_left; · (intro w'; go_simp; with_reducible rfl)
               rotate_left; · (simp only [Act.put, List.setIfInBounds_toArray, List.set_cons_zero, List.set_cons_succ]; rfl)
               refine one_ (i := 3) (N := some 72) #[true,true,true,true,false,false,false,false] rfl rfl (one_of HT_.out (by kernel_rfl)) (by decide) (fun K hK => ?_)
               refine goesP Try.func66 (by kernel_rfl) rfl #[.pointer (some ⟨g, 0, none⟩)] (by rfl) rfl rfl (by simp only [List.map_toArray, List.map_cons, List.map_nil]; rfl) ?_
               refine (term_calls (w0 := w0) (T := T) (s := s) (n := m + 1) hP3.out.drew (Bel.drew hB3.out) hT).mono ?_
               rw [← hr.out]
               rintro e w4 ⟨rfl, hF4⟩
               refine .inr ⟨_, rfl, ?_⟩
               refine ⟨rfl, ?_⟩
               rw [hE4.out]
               exact ⟨rfl, hF3.out.drew.trans hF4⟩
             | ok r =>
               obtain ⟨c, j⟩ := r
               have hE4 := Aside0.mk (show literalP T s n = .ok (⟨4, Term.z, noStr, [a, c]⟩, j) by rw [hE3.out]; unfold pairP; rw [← hr])
               replace hr := Aside0.mk hr
               refine start_ (n := 8) (S := fun w' => w'.cell? ⟨w.heap.size + 1, 5, none⟩ = some v3) (ds := [7]) #[false,false,false,false,false,false,false,false] rfl rfl rfl c5 (fun hS_ => ?_)
               refine with_tabW rLit17.tab rLit17.bits (fun HT_ HW_ => ?_)
               refine pure_ (i := 0) (N := some 69) (v := ?_) (a' := ?_) #[true,false,false,false,false,false,false,false] rfl rfl (any_of HT_.out (by kernel_rfl)) (fun _ _ _ h => h) (Or.inl ⟨by rfl, ?_⟩) ?_ ?_
               rotate_left; · (intro w'; go_simp; with_reducible rfl)
               rotate_left; · (simp only [Act.put, List.setIfInBounds_toArray, List.set_cons_zero, List.set_cons_succ]; rfl)
               refine take_ (i := 1) (N := some 70) (v := ?_) (a' := ?_) #[true,true,false,false,false,false,false,false] rfl rfl (take_ofW HT_.out HW_.out (by kernel_rfl)) (fun _ _ _ h => h) (Or.inl ⟨by rfl, ?_⟩) hS_ ?_ ?_
               rotate_left; · (rintro w' s0; go_simp; with_reducible rfl)
               rotate_left; · (simp only [Act.put, List.setIfInBounds_toArray, List.set_cons_zero, List.set_cons_succ]; rfl)
               refine pure_ (i := 2) (N := some 71) (v := ?_) (a' := ?_) #[true,true,true,false,false,false,false,false] rfl rfl (any_of HT_.out (by kernel_rfl)) (fun _ _ _ h => h) (Or.inl ⟨by rfl, ?_⟩) ?_ ?_
               rotate_left; · (intro w'; go_simp; with_reducible rfl)
               rotate_left; · (simp only [Act.put, List.setIfInBounds_toArray, List.set_cons_zero, List.set_cons_succ]; rfl)
               refine one_ (i := 3) (N := some 72) #[true,true,true,true,false,false,false,false] rfl rfl (one_of HT_.out (by kernel_rfl)) (by decide) (fun K hK => ?_)
               refine goesP Try.func66 (by kernel_rfl) rfl #[.pointer (some ⟨g, 0, none⟩)] (by rfl) rfl rfl (by simp only [List.map_toArray, List.map_cons, List.map_nil]; rfl) ?_
               refine (term_calls (w0 := w0) (T := T) (s := s) (n := m + 1) hP3.out.drew (Bel.drew hB3.out) hT).mono ?_
               rw [← hr.out]
               rintro e w4 ⟨⟨v1, rfl, rfl⟩, hP4, hF4⟩
               refine .inl ⟨_, rfl, ?_⟩
               refine hK.out _ _ (hF4.cell (p := ⟨w.heap.size + 1, 5, none⟩) hS_ (by simp; omega)) (fun hS_ => ?_)
               clear hK K
               refine norm_ (a' := ?_) ?_ ?_
               rotate_left; · (show Act.put _ (some 72) _ = _; simp only [Act.put, List.setIfInBounds_toArray, List.set_cons_zero, List.set_cons_succ]; rfl)
               refine one_ (i := 4) (N := some 73) #[true,true,true,true,true,false,false,false] rfl rfl (one_of HT_.out (by kernel_rfl)) (by decide) (fun K hK => ?_)
               refine value_ (w1 := ?_) (v := ?_) (by rfl) rfl ?_ ?_
               rotate_left 2; · (go_simp; constructor; rfl; rfl)
               refine hK.out _ _ (cell_alloc hS_ _) (fun hS_ => ?_)
               clear hK K
               refine norm_ (a' := ?_) ?_ ?_
               rotate_left; · (show Act.put _ (some 73) _ = _; simp only [Act.put, List.setIfInBounds_toArray, List.set_cons_zero, List.set_cons_succ]; rfl)
               refine one_ (i := 5) (N := some 74) #[true,true,true,true,true,true,false,false] rfl rfl (one_of HT_.out (by kernel_rfl)) (by decide) (fun K hK => ?_)
               refine Kd.R_append_step kTerm (w0 := w4) (w.heap.size + 2) (by rfl) (.tmp 70) (.tmp 73) 26 25 (.agg #[.string ⟨#[]⟩, .string ⟨#[]⟩, .int .i64 0]) 40 (by rfl) Try.underlying26 info_term (by rfl) (by decide) (by omega) v3 [a] c [.string c.var, .string c.val.sym, .int .i64 c.val.num] (fun q => w.heap.size + 2 ≤ q) (fun _ => False) (by rfl) (by rfl) (kTerm_mkM _ _ _ c) (fun _ hk => hk.elim) (fun _ hk => Nat.le_trans (Nat.le_trans hz3 hF4.size) hk) (hF4.R (Kd.R_drew hR3.out) (fun q hq e => by have : q = g := e; omega)) (Below.refl _ _) (Nat.le_trans hz3 hF4.size) (by simp) ?_
               intro v5 w5 hR5 hB5 hg5 hat5
               obtain ⟨gg, cap, rfl, hgg⟩ := Kd.R_form hR5 (by simp)
               have bk5 : ∀ x o, w3.heap[x]? = some o → x ≠ g → x < w.heap.size + 2 → w5.heap[x]? = some o := fun x o ho hx hxB => (hg5.block x (Nat.lt_of_lt_of_le (blk_lt ho) hF4.size) (fun e => absurd (hR3.out.1 x e.symm) (Nat.not_le.mpr hxB))).trans (hF4.blk (blk_drew ho) hx)
               have hL5 := Aside0.mk (bk5 _ _ hL3.out (by omega) (by omega))
               have hD5 := Aside0.mk (bk5 _ _ hD3.out (by omega) (by omega))
               have hg5g : w5.heap[g]? = w4.heap[g]? := hg5.block g hP4.lt (fun e => absurd (hR3.out.1 g e.symm) (by omega))
               have hP5 : Aside0 (PAt w0 T s w5 g _) := ⟨by obtain ⟨A, c, hx, rr⟩ := hP4; exact ⟨A, c, hg5g.trans hx, rr⟩⟩
               have hF5 := Aside0.mk ((hF3.out.drew.trans hF4).step (Fr.of_grown hg5 (S := fun q => w.heap.size + 2 ≤ q) (fun q e => Or.inl (hR3.out.1 q e))) (fun q hq => Or.inr (by omega)))
               have hz5 : w4.heap.size ≤ w5.heap.size := hg5.size
               have hR5 := Aside0.mk hR5
               clear bk5 hg5g hg5 hB5 hat5 hgg
               refine hK.out _ _ ((blk_cell hL5.out 5).trans rfl) (fun hS_ => ?_)
               clear hK K
               refine norm_ (a' := ?_) ?_ ?_
               rotate_left; · (show Act.put _ (some 74) _ = _; simp only [Act.put, List.setIfInBounds_toArray, List.set_cons_zero, List.set_cons_succ]; rfl)
               refine pure_ (i := 6) (N := some 75) (v := ?_) (a' := ?_) #[true,true,true,true,true,true,true,false] rfl rfl (any_of HT_.out (by kernel_rfl)) (fun _ _ _ h => h) (Or.inl ⟨by rfl, ?_⟩) ?_ ?_
               rotate_left; · (intro w'; go_simp; with_reducible rfl)
               rotate_left; · (simp only [Act.put, List.setIfInBounds_toArray, List.set_cons_zero, List.set_cons_succ]; rfl)
               refine last_ (i := 7) (N := none) #[true,true,true,true,true,true,true,true] rfl rfl (one_of HT_.out (by kernel_rfl)) (by decide) (fun K hK => ?_)
               have e5 : w5.cell? ⟨w.heap.size + 1, 5, none⟩ = some v3 := (blk_cell hL5.out 5).trans rfl
               have f5 : w5.frozen? ⟨w.heap.size + 1, 5, none⟩ = false := blk_frozen hL5.out 5
               refine skip_ (w1 := ?_) (by rfl) rfl ?_ ?_
               rotate_left; · (go_simp; rfl)
               refine hK.out _ _ ?_
               clear hK K
               refine wpAnyLast_done (by kernel_rfl) ?_ _
               have hS5 := LitSt.app hB0.out hgw hg0 hP5.out hF5.out hL5.out hD5.out hR5.out (Nat.le_trans (Nat.le_trans hz3 hF4.size) hz5)
               refine then_world (fun w' => LitSt w0 T s g w j 4 _ [a, c] w') hS5 (fun w3 hS3 => ?_)
               replace hS3 := Aside0.mk hS3
               have hz9 := blk_lt hS3.out.d
               have e0 : w3.cell? ⟨w.heap.size + 1, 0, none⟩ = some (.int .u8 (⟨4, Term.z, noStr, [a, c]⟩ : Lit).kind) := (blk_cell hS3.out.l 0).trans rfl
               have e1 : w3.cell? ⟨w.heap.size + 1, 1, none⟩ = some (.string (⟨4, Term.z, noStr, [a, c]⟩ : Lit).who.var) := (blk_cell hS3.out.l 1).trans rfl
               have e2 : w3.cell? ⟨w.heap.size + 1, 2, none⟩ = some (.string (⟨4, Term.z, noStr, [a, c]⟩ : Lit).who.val.sym) := (blk_cell hS3.out.l 2).trans rfl
               have e3 : w3.cell? ⟨w.heap.size + 1, 3, none⟩ = some (.int .i64 (⟨4, Term.z, noStr, [a, c]⟩ : Lit).who.val.num) := (blk_cell hS3.out.l 3).trans rfl
               have e4 : w3.cell? ⟨w.heap.size + 1, 4, none⟩ = some (.string (⟨4, Term.z, noStr, [a, c]⟩ : Lit).pred) := (blk_cell hS3.out.l 4).trans rfl
               have e5 : w3.cell? ⟨w.heap.size + 1, 5, none⟩ = some (.slice (some ⟨gg, 0, none⟩) 2 cap) := (blk_cell hS3.out.l 5).trans rfl
               have d0 : w3.cell? ⟨w.heap.size, 0, none⟩ = some (.int .u8 0) := (blk_cell hS3.out.d 0).trans rfl
               have d1 : w3.cell? ⟨w.heap.size, 1, none⟩ = some (.string ⟨#[]⟩) := (blk_cell hS3.out.d 1).trans rfl
               have d2 : w3.cell? ⟨w.heap.size, 2, none⟩ = some (.string ⟨#[]⟩) := (blk_cell hS3.out.d 2).trans rfl
               have d3 : w3.cell? ⟨w.heap.size, 3, none⟩ = some (.int .i64 0) := (blk_cell hS3.out.d 3).trans rfl
               have d4 : w3.cell? ⟨w.heap.size, 4, none⟩ = some (.string ⟨#[]⟩) := (blk_cell hS3.out.d 4).trans rfl
               have d5 : w3.cell? ⟨w.heap.size, 5, none⟩ = some (.slice none 0 0) := (blk_cell hS3.out.d 5).trans rfl
               have f0 := blk_frozen hS3.out.d 0
               have f1 := blk_frozen hS3.out.d 1
               have f2 := blk_frozen hS3.out.d 2
               have f3 := blk_frozen hS3.out.d 3
               have f4 := blk_frozen hS3.out.d 4
               have f5 := blk_frozen hS3.out.d 5
               go_wp2
               exact lit_end (l := ⟨4, Term.z, noStr, [a, c]⟩) (av := .slice (some ⟨gg, 0, none⟩) 2 cap) rfl rfl hS3.out.d (Kd.R_lower hS3.out.r (by omega)) hS3.out.p hS3.out.f hgw hE4.out
     · replace hb1 := Aside0.mk hb1
       go_enter Try.func36, Try.ntmps36
       go_wp2_with fail
       refine (is_calls 0 n nots (by omega) hS0.out.p hS0.out.b hT (by omega)).mono ?_; rintro e w1 ⟨rfl, hd⟩
       rw [hn.out]
       have hS1 := Aside0.mk (hS0.out.drawn hd)
       clear hd hS0
       go_wp2_with fail
       refine (kind_calls hS1.out.p hS1.out.b).mono ?_; rintro e w2 ⟨rfl, hd⟩
       have hS2 := Aside0.mk (hS1.out.drawn hd)
       clear hd hS1
       go_wp2_with fail
       refine (is_calls 1 (n + 1) less (by omega) hS2.out.p hS2.out.b hT (by omega)).mono ?_; rintro e w3 ⟨rfl, hd⟩
       rw [hb1.out]
       have hS3 := Aside0.mk (hS2.out.drawn hd)
       clear hd hS2
       go_wp2_with fail
       refine (is_calls 1 (n + 1) unlike (by omega) hS3.out.p hS3.out.b hT (by omega)).mono ?_; rintro e w4 ⟨rfl, hd⟩
       have hS4 := Aside0.mk (hS3.out.drawn hd)
       clear hd hS3
       have e0 : w4.cell? ⟨w.heap.size + 1, 0, none⟩ = some (.int .u8 1) := (blk_cell hS4.out.l 0).trans rfl
       have f0 := blk_frozen hS4.out.l 0
       go_wp2_with fail
       obtain ⟨v3, hv3⟩ : ∃ v3, v3 = Value.slice none 0 0 := ⟨_, rfl⟩
       refine wp_world (fun w' => LitSt w0 T s g w n 3 v3 [] w') (by rw [hv3]; exact hS4.out.kind hgw hBz 3) (fun w3 hS3 => ?_)
       replace hS3 := Aside0.mk hS3
       clear hS4 e0 f0 hv3
       have hP3 := Aside0.mk hS3.out.p
       have hB3 := Aside0.mk hS3.out.b
       have hF3 := Aside0.mk hS3.out.f
       have hL3 := Aside0.mk hS3.out.l
       have hD3 := Aside0.mk hS3.out.d
       have hR3 := Aside0.mk hS3.out.r
       have hz3 := hS3.out.z
       have c5 : w3.cell? ⟨w.heap.size + 1, 5, none⟩ = some v3 := (blk_cell hL3.out 5).trans rfl
       obtain ⟨r, hr⟩ : ∃ r, r = termP T s n := ⟨_, rfl⟩
       cases r with
       | error p =>
         have hE2 := Aside0.mk (show literalP T s n = .error p by rw [hE.out, ← hr])
         replace hr := Aside0.mk hr
         refine start_ (n := 8) (S := fun w' => w'.cell? ⟨w.heap.size + 1, 5, none⟩ = some v3) (ds := [7]) #[false,false,false,false,false,false,false,false] rfl rfl rfl c5 (fun hS_ => ?_)
         refine with_tabW rLit11.tab rLit11.bits (fun HT_ HW_ => ?_)
         refine pure_ (i := 0) (N := some 47) (v := ?_) (a' := ?_) #[true,false,false,false,false,false,false,false] rfl rfl (any_of HT_.out (by kernel_rfl)) (fun _ _ _ h => h) (Or.inl ⟨by rfl, ?_⟩) ?_ ?_
         rotate_left; · (intro w'; go_simp; with_reducible rfl)
         rotate_left; · (simp only [Act.put, List.setIfInBounds_toArray, List.set_cons_zero, List.set_cons_succ]; rfl)
         refine take_ (i := 1) (N := some 48) (v := ?_) (a' := ?_) #[true,true,false,false,false,false,false,false] rfl rfl (take_ofW HT_.out HW_.out (by kernel_rfl)) (fun _ _ _ h => h) (Or.inl ⟨by rfl, ?_⟩) hS_ ?_ ?_
         rotate_left; · (rintro w' s0; go_simp; with_reducible rfl)
         rotate_left; · (simp only [Act.put, List.setIfInBounds_toArray, List.set_cons_zero, List.set_cons_succ]; rfl)
         refine pure_ (i := 2) (N := some 49) (v := ?_) (a' := ?_) #[true,true,true,false,false,false,false,false] rfl rfl (any_of HT_.out (by kernel_rfl)) (fun _ _ _ h => h) (Or.inl ⟨by rfl, ?_⟩) ?_ ?_
         rotate_left; · (intro w'; go_simp; with_reducible rfl)
         rotate_left; · (simp only [Act.put, List.setIfInBounds_toArray, List.set_cons_zero, List.set_cons_succ]; rfl)
         refine one_ (i := 3) (N := some 50) #[true,true,true,true,false,false,false,false] rfl rfl (one_of HT_.out (by kernel_rfl)) (by decide) (fun K hK => ?_)
         refine goesP Try.func66 (by kernel_rfl) rfl #[.pointer (some ⟨g, 0, none⟩)] (by rfl) rfl rfl (by simp only [List.map_toArray, List.map_cons, List.map_nil]; rfl) ?_
         refine (term_calls (w0 := w0) (T := T) (s := s) (n := n) hP3.out.drew (Bel.drew hB3.out) hT).mono ?_
         rw [← hr.out]
         rintro e w4 ⟨rfl, hF4⟩
         refine .inr ⟨_, rfl, ?_⟩
         refine ⟨rfl, ?_⟩
         rw [hE2.out]
         exact ⟨rfl, hF3.out.drew.trans hF4⟩
       | ok r =>
         obtain ⟨a, m⟩ := r
         have hE2 := Aside0.mk (show literalP T s n = if isT T s m unlike then pairP T s 4 a m else if isT T s m less then pairP T s 3 a m else .error (posOf T s m, 6) by rw [hE.out, ← hr])
         replace hr := Aside0.mk hr
         refine start_ (n := 8) (S := fun w' => w'.cell? ⟨w.heap.size + 1, 5, none⟩ = some v3) (ds := [7]) #[false,false,false,false,false,false,false,false] rfl rfl rfl c5 (fun hS_ => ?_)
         refine with_tabW rLit11.tab rLit11.bits (fun HT_ HW_ => ?_)
         refine pure_ (i := 0) (N := some 47) (v := ?_) (a' := ?_) #[true,false,false,false,false,false,false,false] rfl rfl (any_of HT_.out (by kernel_rfl)) (fun _ _ _ h => h) (Or.inl ⟨by rfl, ?_⟩) ?_ ?_
         rotate_left; · (intro w'; go_simp; with_reducible rfl)
         rotate_left; · (simp only [Act.put, List.setIfInBounds_toArray, List.set_cons_zero, List.set_cons_succ]; rfl)
         refine take_ (i := 1) (N := some 48) (v := ?_) (a' := ?_) #[true,true,false,false,false,false,false,false] rfl rfl (take_ofW HT_.out HW_.out (by kernel_rfl)) (fun _ _ _ h => h) (Or.inl ⟨by rfl, ?_⟩) hS_ ?_ ?_
         rotate_left; · (rintro w' s0; go_simp; with_reducible rfl)
         rotate_left; · (simp only [Act.put, List.setIfInBounds_toArray, List.set_cons_zero, List.set_cons_succ]; rfl)
         refine pure_ (i := 2) (N := some 49) (v := ?_) (a' := ?_) #[true,true,true,false,false,false,false,false] rfl rfl (any_of HT_.out (by kernel_rfl)) (fun _ _ _ h => h) (Or.inl ⟨by rfl, ?_⟩) ?_ ?_
         rotate_left; · (intro w'; go_simp; with_reducible rfl)
         rotate_left; · (simp only [Act.put, List.setIfInBounds_toArray, List.set_cons_zero, List.set_cons_succ]; rfl)
         refine one_ (i := 3) (N := some 50) #[true,true,true,true,false,false,false,false] rfl rfl (one_of HT_.out (by kernel_rfl)) (by decide) (fun K hK => ?_)
         refine goesP Try.func66 (by kernel_rfl) rfl #[.pointer (some ⟨g, 0, none⟩)] (by rfl) rfl rfl (by simp only [List.map_toArray, List.map_cons, List.map_nil]; rfl) ?_
         refine (term_calls (w0 := w0) (T := T) (s := s) (n := n) hP3.out.drew (Bel.drew hB3.out) hT).mono ?_
         rw [← hr.out]
         rintro e w4 ⟨⟨v1, rfl, rfl⟩, hP4, hF4⟩
         refine .inl ⟨_, rfl, ?_⟩
         refine hK.out _ _ (hF4.cell (p := ⟨w.heap.size + 1, 5, none⟩) hS_ (by simp; omega)) (fun hS_ => ?_)
         clear hK K
         refine norm_ (a' := ?_) ?_ ?_
         rotate_left; · (show Act.put _ (some 50) _ = _; simp only [Act.put, List.setIfInBounds_toArray, List.set_cons_zero, List.set_cons_succ]; rfl)
         refine one_ (i := 4) (N := some 51) #[true,true,true,true,true,false,false,false] rfl rfl (one_of HT_.out (by kernel_rfl)) (by decide) (fun K hK => ?_)
         refine value_ (w1 := ?_) (v := ?_) (by rfl) rfl ?_ ?_
         rotate_left 2; · (go_simp; constructor; rfl; rfl)
         refine hK.out _ _ (cell_alloc hS_ _) (fun hS_ => ?_)
         clear hK K
         refine norm_ (a' := ?_) ?_ ?_
         rotate_left; · (show Act.put _ (some 51) _ = _; simp only [Act.put, List.setIfInBounds_toArray, List.set_cons_zero, List.set_cons_succ]; rfl)
         refine one_ (i := 5) (N := some 52) #[true,true,true,true,true,true,false,false] rfl rfl (one_of HT_.out (by kernel_rfl)) (by decide) (fun K hK => ?_)
         refine Kd.R_append_step kTerm (w0 := w4) (w.heap.size + 2) (by rfl) (.tmp 48) (.tmp 51) 26 25 (.agg #[.string ⟨#[]⟩, .string ⟨#[]⟩, .int .i64 0]) 40 (by rfl) Try.underlying26 info_term (by rfl) (by decide) (by omega) v3 [] a [.string a.var, .string a.val.sym, .int .i64 a.val.num] (fun q => w.heap.size + 2 ≤ q) (fun _ => False) (by rfl) (by rfl) (kTerm_mkM _ _ _ a) (fun _ hk => hk.elim) (fun _ hk => Nat.le_trans (Nat.le_trans hz3 hF4.size) hk) (hF4.R (Kd.R_drew hR3.out) (fun q hq e => by have : q = g := e; omega)) (Below.refl _ _) (Nat.le_trans hz3 hF4.size) (by simp) ?_
         intro v5 w5 hR5 hB5 hg5 hat5
         obtain ⟨gg, cap, rfl, hgg⟩ := Kd.R_form hR5 (by simp)
         have bk5 : ∀ x o, w3.heap[x]? = some o → x ≠ g → x < w.heap.size + 2 → w5.heap[x]? = some o := fun x o ho hx hxB => (hg5.block x (Nat.lt_of_lt_of_le (blk_lt ho) hF4.size) (fun e => absurd (hR3.out.1 x e.symm) (Nat.not_le.mpr hxB))).trans (hF4.blk (blk_drew ho) hx)
         have hL5 := Aside0.mk (bk5 _ _ hL3.out (by omega) (by omega))
         have hD5 := Aside0.mk (bk5 _ _ hD3.out (by omega) (by omega))
         have hg5g : w5.heap[g]? = w4.heap[g]? := hg5.block g hP4.lt (fun e => absurd (hR3.out.1 g e.symm) (by omega))
         have hP5 : Aside0 (PAt w0 T s w5 g _) := ⟨by obtain ⟨A, c, hx, rr⟩ := hP4; exact ⟨A, c, hg5g.trans hx, rr⟩⟩
         have hF5 := Aside0.mk ((hF3.out.drew.trans hF4).step (Fr.of_grown hg5 (S := fun q => w.heap.size + 2 ≤ q) (fun q e => Or.inl (hR3.out.1 q e))) (fun q hq => Or.inr (by omega)))
         have hz5 : w4.heap.size ≤ w5.heap.size := hg5.size
         have hR5 := Aside0.mk hR5
         clear bk5 hg5g hg5 hB5 hat5 hgg
         refine hK.out _ _ ((blk_cell hL5.out 5).trans rfl) (fun hS_ => ?_)
         clear hK K
         refine norm_ (a' := ?_) ?_ ?_
         rotate_left; · (show Act.put _ (some 52) _ = _; simp only [Act.put, List.setIfInBounds_toArray, List.set_cons_zero, List.set_cons_succ]; rfl)
         refine pure_ (i := 6) (N := some 53) (v := ?_) (a' := ?_) #[true,true,true,true,true,true,true,false] rfl rfl (any_of HT_.out (by kernel_rfl)) (fun _ _ _ h => h) (Or.inl ⟨by rfl, ?_⟩) ?_ ?_
         rotate_left; · (intro w'; go_simp; with_reducible rfl)
         rotate_left; · (simp only [Act.put, List.setIfInBounds_toArray, List.set_cons_zero, List.set_cons_succ]; rfl)
         refine last_ (i := 7) (N := none) #[true,true,true,true,true,true,true,true] rfl rfl (one_of HT_.out (by kernel_rfl)) (by decide) (fun K hK => ?_)
         have e5 : w5.cell? ⟨w.heap.size + 1, 5, none⟩ = some v3 := (blk_cell hL5.out 5).trans rfl
         have f5 : w5.frozen? ⟨w.heap.size + 1, 5, none⟩ = false := blk_frozen hL5.out 5
         refine skip_ (w1 := ?_) (by rfl) rfl ?_ ?_
         rotate_left; · (go_simp; rfl)
         refine hK.out _ _ ?_
         clear hK K
         refine wpAnyLast_done (by kernel_rfl) ?_ _
         have hS5 := LitSt.app hB0.out hgw hg0 hP5.out hF5.out hL5.out hD5.out hR5.out (Nat.le_trans (Nat.le_trans hz3 hF4.size) hz5)
         refine then_world (fun w' => LitSt w0 T s g w m 3 _ [a] w') hS5 (fun w3 hS3 => ?_)
         replace hS3 := Aside0.mk hS3
         have hmx := hS3.out.p.max
         clear hP3 hB3 hF3 hL3 hD3 hR3 hr hP4 hF4 hP5 hF5 hL5 hD5 hR5 hS_ HT_ HW_ c5
         skip
         cases hu : isT T s m unlike
         · cases hl : isT T s m less
           · have hE3 := Aside0.mk (show literalP T s n = .error (posOf T s m, 6) by rw [hE2.out, hu, hl]; rfl)
             replace hu := Aside0.mk hu
             replace hl := Aside0.mk hl
             go_wp2_with fail
             refine (is_calls 0 m unlike (by omega) hS3.out.p hS3.out.b hT (by omega)).mono ?_; rintro e w7 ⟨rfl, hd⟩
             rw [hu.out]
             have hS7 := Aside0.mk (hS3.out.drawn hd)
             clear hd hS3
             go_wp2_with fail
             refine (is_calls 0 m less (by omega) hS7.out.p hS7.out.b hT (by omega)).mono ?_; rintro e w8 ⟨rfl, hd⟩
             rw [hl.out]
             have hS8 := Aside0.mk (hS7.out.drawn hd)
             clear hd hS7
             go_wp2_with fail
             refine (fail_calls 6 hS8.out.p hS8.out.b).mono ?_; rintro e w9 ⟨rfl, hd⟩
             go_wp2
             refine ⟨rfl, ?_⟩
             rw [hE3.out]
             exact ⟨rfl, hS8.out.f.drawn hd⟩
           · have hE3 := Aside0.mk (show literalP T s n = pairP T s 3 a m by rw [hE2.out, hu, hl]; rfl)
             have hlt := isT_lt hl
             replace hu := Aside0.mk hu
             replace hl := Aside0.mk hl
             go_wp2_with fail
             refine (is_calls 0 m unlike (by omega) hS3.out.p hS3.out.b hT (by omega)).mono ?_; rintro e w7 ⟨rfl, hd⟩
             rw [hu.out]
             have hS7 := Aside0.mk (hS3.out.drawn hd)
             clear hd hS3
             go_wp2_with fail
             refine (is_calls 0 m less (by omega) hS7.out.p hS7.out.b hT (by omega)).mono ?_; rintro e w8 ⟨rfl, hd⟩
             rw [hl.out]
             have hS8 := Aside0.mk (hS7.out.drawn hd)
             clear hd hS7
             have e0 : w8.cell? ⟨w.heap.size + 1, 0, none⟩ = some (.int .u8 3) := (blk_cell hS8.out.l 0).trans rfl
             have f0 := blk_frozen hS8.out.l 0
             obtain ⟨A1, c1, p0, p1, p2, q2, hm, _, _⟩ := hS8.out.p.cells
             go_wp2_with fail
             obtain ⟨v3, hv3⟩ : ∃ v3, LitSt w0 T s g w m 3 v3 [a] w8 := ⟨_, hS8.out⟩
             refine wp_world (fun w' => LitSt w0 T s g w (m + 1) 3 v3 [a] w') (hv3.to hgw (m + 1) ((m : Int) + 1) (by omega) (by omega)) (fun w3 hS3 => ?_)
             replace hS3 := Aside0.mk hS3
             clear hS8 e0 f0 p0 p1 p2 q2 hE2 hv3
             have hP3 := Aside0.mk hS3.out.p
             have hB3 := Aside0.mk hS3.out.b
             have hF3 := Aside0.mk hS3.out.f
             have hL3 := Aside0.mk hS3.out.l
             have hD3 := Aside0.mk hS3.out.d
             have hR3 := Aside0.mk hS3.out.r
             have hz3 := hS3.out.z
             have c5 : w3.cell? ⟨w.heap.size + 1, 5, none⟩ = some v3 := (blk_cell hL3.out 5).trans rfl
             obtain ⟨r, hr⟩ : ∃ r, r = termP T s (m + 1) := ⟨_, rfl⟩
             cases r with
             | error p =>
               have hE4 := Aside0.mk (show literalP T s n = .error p by rw [hE3.out]; unfold pairP; rw [← hr])
               replace hr := Aside0.mk hr
               refine start_ (n := 8) (S := fun w' => w'.cell? ⟨w.heap.size + 1, 5, none⟩ = some v3) (ds := [7]) #[false,false,false,false,false,false,false,false] rfl rfl rfl c5 (fun hS_ => ?_)
               refine with_tabW rLit17.tab rLit17.bits (fun HT_ HW_ => ?_)
               refine pure_ (i := 0) (N := some 69) (v := ?_) (a' := ?_) #[true,false,false,false,false,false,false,false] rfl rfl (any_of HT_.out (by kernel_rfl)) (fun _ _ _ h => h) (Or.inl ⟨by rfl, ?_⟩) ?_ ?_
               rotate_left; · (intro w'; go_simp; with_reducible rfl)
               rotate_left; · (simp only [Act.put, List.setIfInBounds_toArray, List.set_cons_zero, List.set_cons_succ]; rfl)
               refine take_ (i := 1) (N := some 70) (v := ?_) (a' := ?_) #[true,true,false,false,false,false,false,false] rfl rfl (take_ofW HT_.out HW_.out (by kernel_rfl)) (fun _ _ _ h => h) (Or.inl ⟨by rfl, ?_⟩) hS_ ?_ ?_
               rotate_left; · (rintro w' s0; go_simp; with_reducible rfl)
               rotate_left; · (simp only [Act.put, List.setIfInBounds_toArray, List.set_cons_zero, List.set_cons_succ]; rfl)
               refine pure_ (i := 2) (N := some 71) (v := ?_) (a' := ?_) #[true,true,true,false,false,false,false,false] rfl rfl (any_of HT_.out (by kernel_rfl)) (fun _ _ _ h => h) (Or.inl ⟨by rfl, ?_⟩) ?_ ?_
               rotate_left; · (intro w'; go_simp; with_reducible rfl)
               rotate_left; · (simp only [Act.put, List.setIfInBounds_toArray, List.set_cons_zero, List.set_cons_succ]; rfl)
               refine one_ (i := 3) (N := some 72) #[true,true,true,true,false,false,false,false] rfl rfl (one_of HT_.out (by kernel_rfl)) (by decide) (fun K hK => ?_)
               refine goesP Try.func66 (by kernel_rfl) rfl #[.pointer (some ⟨g, 0, none⟩)] (by rfl) rfl rfl (by simp only [List.map_toArray, List.map_cons, List.map_nil]; rfl) ?_
               refine (term_calls (w0 := w0) (T := T) (s := s) (n := m + 1) hP3.out.drew (Bel.drew hB3.out) hT).mono ?_
               rw [← hr.out]
               rintro e w4 ⟨rfl, hF4⟩
               refine .inr ⟨_, rfl, ?_⟩
               refine ⟨rfl, ?_⟩
               rw [hE4.out]
               exact ⟨rfl, hF3.out.drew.trans hF4⟩
             | ok r =>
               obtain ⟨c, j⟩ := r
               have hE4 := Aside0.mk (show literalP T s n = .ok (⟨3, Term.z, noStr, [a, c]⟩, j) by rw [hE3.out]; unfold pairP; rw [← hr])
               replace hr := Aside0.mk hr
               refine start_ (n := 8) (S := fun w' => w'.cell? ⟨w.heap.size + 1, 5, none⟩ = some v3) (ds := [7]) #[false,false,false,false,false,false,false,false] rfl rfl rfl c5 (fun hS_ => ?_)
               refine with_tabW rLit17.tab rLit17.bits (fun HT_ HW_ => ?_)
               refine pure_ (i := 0) (N := some 69) (v := ?_) (a' := ?_) #[true,false,false,false,false,false,false,false] rfl rfl (any_of HT_.out (by kernel_rfl)) (fun _ _ _ h => h) (Or.inl ⟨by rfl, ?_⟩) ?_ ?_
               rotate_left; · (intro w'; go_simp; with_reducible rfl)
               rotate_left; · (simp only [Act.put, List.setIfInBounds_toArray, List.set_cons_zero, List.set_cons_succ]; rfl)
               refine take_ (i := 1) (N := some 70) (v := ?_) (a' := ?_) #[true,true,false,false,false,false,false,false] rfl rfl (take_ofW HT_.out HW_.out (by kernel_rfl)) (fun _ _ _ h => h) (Or.inl ⟨by rfl, ?_⟩) hS_ ?_ ?_
               rotate_left; · (rintro w' s0; go_simp; with_reducible rfl)
               rotate_left; · (simp only [Act.put, List.setIfInBounds_toArray, List.set_cons_zero, List.set_cons_succ]; rfl)
               refine pure_ (i := 2) (N := some 71) (v := ?_) (a' := ?_) #[true,true,true,false,false,false,false,false] rfl rfl (any_of HT_.out (by kernel_rfl)) (fun _ _ _ h => h) (Or.inl ⟨by rfl, ?_⟩) ?_ ?_
               rotate_left; · (intro w'; go_simp; with_reducible rfl)
               rotate_left; · (simp only [Act.put, List.setIfInBounds_toArray, List.set_cons_zero, List.set_cons_succ]; rfl)
               refine one_ (i := 3) (N := some 72) #[true,true,true,true,false,false,false,false] rfl rfl (one_of HT_.out (by kernel_rfl)) (by decide) (fun K hK => ?_)
               refine goesP Try.func66 (by kernel_rfl) rfl #[.pointer (some ⟨g, 0, none⟩)] (by rfl) rfl rfl (by simp only [List.map_toArray, List.map_cons, List.map_nil]; rfl) ?_
               refine (term_calls (w0 := w0) (T := T) (s := s) (n := m + 1) hP3.out.drew (Bel.drew hB3.out) hT).mono ?_
               rw [← hr.out]
               rintro e w4 ⟨⟨v1, rfl, rfl⟩, hP4, hF4⟩
               refine .inl ⟨_, rfl, ?_⟩
               refine hK.out _ _ (hF4.cell (p := ⟨w.heap.size + 1, 5, none⟩) hS_ (by simp; omega)) (fun hS_ => ?_)
               clear hK K
               refine norm_ (a' := ?_) ?_ ?_
               rotate_left; · (show Act.put _ (some 72) _ = _; simp only [Act.put, List.setIfInBounds_toArray, List.set_cons_zero, List.set_cons_succ]; rfl)
               refine one_ (i := 4) (N := some 73) #[true,true,true,true,true,false,false,false] rfl rfl (one_of HT_.out (by kernel_rfl)) (by decide) (fun K hK => ?_)
               refine value_ (w1 := ?_) (v := ?_) (by rfl) rfl ?_ ?_
               rotate_left 2; · (go_simp; constructor; rfl; rfl)
               refine hK.out _ _ (cell_alloc hS_ _) (fun hS_ => ?_)
               clear hK K
               refine norm_ (a' := ?_) ?_ ?_
               rotate_left; · (show Act.put _ (some 73) _ = _; simp only [Act.put, List.setIfInBounds_toArray, List.set_cons_zero, List.set_cons_succ]; rfl)
               refine one_ (i := 5) (N := some 74) #[true,true,true,true,true,true,false,false] rfl rfl (one_of HT_.out (by kernel_rfl)) (by decide) (fun K hK => ?_)
               refine Kd.R_append_step kTerm (w0 := w4) (w.heap.size + 2) (by rfl) (.tmp 70) (.tmp 73) 26 25 (.agg #[.string ⟨#[]⟩, .string ⟨#[]⟩, .int .i64 0]) 40 (by rfl) Try.underlying26 info_term (by rfl) (by decide) (by omega) v3 [a] c [.string c.var, .string c.val.sym, .int .i64 c.val.num] (fun q => w.heap.size + 2 ≤ q) (fun _ => False) (by rfl) (by rfl) (kTerm_mkM _ _ _ c) (fun _ hk => hk.elim) (fun _ hk => Nat.le_trans (Nat.le_trans hz3 hF4.size) hk) (hF4.R (Kd.R_drew hR3.out) (fun q hq e => by have : q = g := e; omega)) (Below.refl _ _) (Nat.le_trans hz3 hF4.size) (by simp) ?_
               intro v5 w5 hR5 hB5 hg5 hat5
               obtain ⟨gg, cap, rfl, hgg⟩ := Kd.R_form hR5 (by simp)
               have bk5 : ∀ x o, w3.heap[x]? = some o → x ≠ g → x < w.heap.size + 2 → w5.heap[x]? = some o := fun x o ho hx hxB => (hg5.block x (Nat.lt_of_lt_of_le (blk_lt ho) hF4.size) (fun e => absurd (hR3.out.1 x e.symm) (Nat.not_le.mpr hxB))).trans (hF4.blk (blk_drew ho) hx)
               have hL5 := Aside0.mk (bk5 _ _ hL3.out (by omega) (by omega))
               have hD5 := Aside0.mk (bk5 _ _ hD3.out (by omega) (by omega))
               have hg5g : w5.heap[g]? = w4.heap[g]? := hg5.block g hP4.lt (fun e => absurd (hR3.out.1 g e.symm) (by omega))
               have hP5 : Aside0 (PAt w0 T s w5 g _) := ⟨by obtain ⟨A, c, hx, rr⟩ := hP4; exact ⟨A, c, hg5g.trans hx, rr⟩⟩
               have hF5 := Aside0.mk ((hF3.out.drew.trans hF4).step (Fr.of_grown hg5 (S := fun q => w.heap.size + 2 ≤ q) (fun q e => Or.inl (hR3.out.1 q e))) (fun q hq => Or.inr (by omega)))
               have hz5 : w4.heap.size ≤ w5.heap.size := hg5.size
               have hR5 := Aside0.mk hR5
               clear bk5 hg5g hg5 hB5 hat5 hgg
               refine hK.out _ _ ((blk_cell hL5.out 5).trans rfl) (fun hS_ => ?_)
               clear hK K
               refine norm_ (a' := ?_) ?_ ?_
               rotate_left; · (show Act.put _ (some 74) _ = _; simp only [Act.put, List.setIfInBounds_toArray, List.set_cons_zero, List.set_cons_succ]; rfl)
               refine pure_ (i := 6) (N := some 75) (v := ?_) (a' := ?_) #[true,true,true,true,true,true,true,false] rfl rfl (any_of HT_.out (by kernel_rfl)) (fun _ _ _ h => h) (Or.inl ⟨by rfl, ?_⟩) ?_ ?_
               rotate_left; · (intro w'; go_simp; with_reducible rfl)
               rotate_left; · (simp only [Act.put, List.setIfInBounds_toArray, List.set_cons_zero, List.set_cons_succ]; rfl)
               refine last_ (i := 7) (N := none) #[true,true,true,true,true,true,true,true] rfl rfl (one_of HT_.out (by kernel_rfl)) (by decide) (fun K hK => ?_)
               have e5 : w5.cell? ⟨w.heap.size + 1, 5, none⟩ = some v3 := (blk_cell hL5.out 5).trans rfl
               have f5 : w5.frozen? ⟨w.heap.size + 1, 5, none⟩ = false := blk_frozen hL5.out 5
               refine skip_ (w1 := ?_) (by rfl) rfl ?_ ?_
               rotate_left; · (go_simp; rfl)
               refine hK.out _ _ ?_
               clear hK K
               refine wpAnyLast_done (by kernel_rfl) ?_ _
               have hS5 := LitSt.app hB0.out hgw hg0 hP5.out hF5.out hL5.out hD5.out hR5.out (Nat.le_trans (Nat.le_trans hz3 hF4.size) hz5)
               refine then_world (fun w' => LitSt w0 T s g w j 3 _ [a, c] w') hS5 (fun w3 hS3 => ?_)
               replace hS3 := Aside0.mk hS3
               have hz9 := blk_lt hS3.out.d
               have e0 : w3.cell? ⟨w.heap.size + 1, 0, none⟩ = some (.int .u8 (⟨3, Term.z, noStr, [a, c]⟩ : Lit).kind) := (blk_cell hS3.out.l 0).trans rfl
               have e1 : w3.cell? ⟨w.heap.size + 1, 1, none⟩ = some (.string (⟨3, Term.z, noStr, [a, c]⟩ : Lit).who.var) := (blk_cell hS3.out.l 1).trans rfl
               have e2 : w3.cell? ⟨w.heap.size + 1, 2, none⟩ = some (.string (⟨3, Term.z, noStr, [a, c]⟩ : Lit).who.val.sym) := (blk_cell hS3.out.l 2).trans rfl
               have e3 : w3.cell? ⟨w.heap.size + 1, 3, none⟩ = some (.int .i64 (⟨3, Term.z, noStr, [a, c]⟩ : Lit).who.val.num) := (blk_cell hS3.out.l 3).trans rfl
               have e4 : w3.cell? ⟨w.heap.size + 1, 4, none⟩ = some (.string (⟨3, Term.z, noStr, [a, c]⟩ : Lit).pred) := (blk_cell hS3.out.l 4).trans rfl
               have e5 : w3.cell? ⟨w.heap.size + 1, 5, none⟩ = some (.slice (some ⟨gg, 0, none⟩) 2 cap) := (blk_cell hS3.out.l 5).trans rfl
               have d0 : w3.cell? ⟨w.heap.size, 0, none⟩ = some (.int .u8 0) := (blk_cell hS3.out.d 0).trans rfl
               have d1 : w3.cell? ⟨w.heap.size, 1, none⟩ = some (.string ⟨#[]⟩) := (blk_cell hS3.out.d 1).trans rfl
               have d2 : w3.cell? ⟨w.heap.size, 2, none⟩ = some (.string ⟨#[]⟩) := (blk_cell hS3.out.d 2).trans rfl
               have d3 : w3.cell? ⟨w.heap.size, 3, none⟩ = some (.int .i64 0) := (blk_cell hS3.out.d 3).trans rfl
               have d4 : w3.cell? ⟨w.heap.size, 4, none⟩ = some (.string ⟨#[]⟩) := (blk_cell hS3.out.d 4).trans rfl
               have d5 : w3.cell? ⟨w.heap.size, 5, none⟩ = some (.slice none 0 0) := (blk_cell hS3.out.d 5).trans rfl
               have f0 := blk_frozen hS3.out.d 0
               have f1 := blk_frozen hS3.out.d 1
               have f2 := blk_frozen hS3.out.d 2
               have f3 := blk_frozen hS3.out.d 3
               have f4 := blk_frozen hS3.out.d 4
               have f5 := blk_frozen hS3.out.d 5
               go_wp2
               exact lit_end (l := ⟨3, Term.z, noStr, [a, c]⟩) (av := .slice (some ⟨gg, 0, none⟩) 2 cap) rfl rfl hS3.out.d (Kd.R_lower hS3.out.r (by omega)) hS3.out.p hS3.out.f hgw hE4.out
         · have hE3 := Aside0.mk (show literalP T s n = pairP T s 4 a m by rw [hE2.out, hu]; rfl)
           have hlt := isT_lt hu
           replace hu := Aside0.mk hu
           go_wp2_with fail
           refine (is_calls 0 m unlike (by omega) hS3.out.p hS3.out.b hT (by omega)).mono ?_; rintro e w7 ⟨rfl, hd⟩
           rw [hu.out]
           have hS7 := Aside0.mk (hS3.out.drawn hd)
           clear hd hS3
           have e0 : w7.cell? ⟨w.heap.size + 1, 0, none⟩ = some (.int .u8 3) := (blk_cell hS7.out.l 0).trans rfl
           have f0 := blk_frozen hS7.out.l 0
           obtain ⟨A1, c1, p0, p1, p2, q2, hm, _, _⟩ := hS7.out.p.cells
           go_wp2_with fail
           obtain ⟨v3, hv3⟩ : ∃ v3, LitSt w0 T s g w m 3 v3 [a] w7 := ⟨_, hS7.out⟩
           refine wp_world (fun w' => LitSt w0 T s g w (m + 1) 4 v3 [a] w') ((hv3.kind hgw hBz 4).to hgw (m + 1) ((m : Int) + 1) (by omega) (by omega)) (fun w3 hS3 => ?_)
           replace hS3 := Aside0.mk hS3
           clear hS7 e0 f0 p0 p1 p2 q2 hE2 hv3
           have hP3 := Aside0.mk hS3.out.p
           have hB3 := Aside0.mk hS3.out.b
           have hF3 := Aside0.mk hS3.out.f
           have hL3 := Aside0.mk hS3.out.l
           have hD3 := Aside0.mk hS3.out.d
           have hR3 := Aside0.mk hS3.out.r
           have hz3 := hS3.out.z
           have c5 : w3.cell? ⟨w.heap.size + 1, 5, none⟩ = some v3 := (blk_cell hL3.out 5).trans rfl
           obtain ⟨r, hr⟩ : ∃ r, r = termP T s (m + 1) := ⟨_, rfl⟩
           cases r with
           | error p =>
             have hE4 := Aside0.mk (show literalP T s n = .error p by rw [hE3.out]; unfold pairP; rw [← hr])
             replace hr := Aside0.mk hr
             refine start_ (n := 8) (S := fun w' => w'.cell? ⟨w.heap.size + 1, 5, none⟩ = some v3) (ds := [7]) #[false,false,false,false,false,false,false,false] rfl rfl rfl c5 (fun hS_ => ?_)
             refine with_tabW rLit17.tab rLit17.bits (fun HT_ HW_ => ?_)
             refine pure_ (i := 0) (N := some 69) (v := ?_) (a' := ?_) #[true,false,false,false,false,false,false,false] rfl rfl (any_of HT_.out (by kernel_rfl)) (fun _ _ _ h => h) (Or.inl ⟨by rfl, ?_⟩) ?_ ?_
             rotate_left; · (intro w'; go_simp; with_reducible rfl)
             rotate_left; · (simp only [Act.put, List.setIfInBounds_toArray, List.set_cons_zero, List.set_cons_succ]; rfl)
             refine take_ (i := 1) (N := some 70) (v := ?_) (a' := ?_) #[true,true,false,false,false,false,false,false] rfl rfl (take_ofW HT_.out HW_.out (by kernel_rfl)) (fun _ _ _ h => h) (Or.inl ⟨by rfl, ?_⟩) hS_ ?_ ?_
             rotate_left; · (rintro w' s0; go_simp; with_reducible rfl)
             rotate_left; · (simp only [Act.put, List.setIfInBounds_toArray, List.set_cons_zero, List.set_cons_succ]; rfl)
             refine pure_ (i := 2) (N := some 71) (v := ?_) (a' := ?_) #[true,true,true,false,false,false,false,false] rfl rfl (any_of HT_.out (by kernel_rfl)) (fun _ _ _ h => h) (Or.inl ⟨by rfl, ?_⟩) ?_ ?_
             rotate_left; · (intro w'; go_simp; with_reducible rfl)
             rotate_left; · (simp only [Act.put, List.setIfInBounds_toArray, List.set_cons_zero, List.set_cons_succ]; rfl)
             refine one_ (i := 3) (N := some 72) #[true,true,true,true,false,false,false,false] rfl rfl (one_of HT_.out (by kernel_rfl)) (by decide) (fun K hK => ?_)
             refine goesP Try.func66 (by kernel_rfl) rfl #[.pointer (some ⟨g, 0, none⟩)] (by rfl) rfl rfl (by simp only [List.map_toArray, List.map_cons, List.map_nil]; rfl) ?_
             refine (term_calls (w0 := w0) (T := T) (s := s) (n := m + 1) hP3.out.drew (Bel.drew hB3.out) hT).mono ?_
             rw [← hr.out]
             rintro e w4 ⟨rfl, hF4⟩
             refine .inr ⟨_, rfl, ?_⟩
             refine ⟨rfl, ?_⟩
             rw [hE4.out]
             exact ⟨rfl, hF3.out.drew.trans hF4⟩
           | ok r =>
             obtain ⟨c, j⟩ := r
             have hE4 := Aside0.mk (show literalP T s n = .ok (⟨4, Term.z, noStr, [a, c]⟩, j) by rw [hE3.out]; unfold pairP; rw [← hr])
             replace hr := Aside0.mk hr
             refine start_ (n := 8) (S := fun w' => w'.cell? ⟨w.heap.size + 1, 5, none⟩ = some v3) (ds := [7]) #[false,false,false,false,false,false,false,false] rfl rfl rfl c5 (fun hS_ => ?_)
             refine with_tabW rLit17.tab rLit17.bits (fun HT_ HW_ => ?_)
             refine pure_ (i := 0) (N := some 69) (v := ?_) (a' := ?_) #[true,false,false,false,false,false,false,false] rfl rfl (any_of HT_.out (by kernel_rfl)) (fun _ _ _ h => h) (Or.inl ⟨by rfl, ?_⟩) ?_ ?_
             rotate_left; · (intro w'; go_simp; with_reducible rfl)
             rotate_left; · (simp only [Act.put, List.setIfInBounds_toArray, List.set_cons_zero, List.set_cons_succ]; rfl)
             refine take_ (i := 1) (N := some 70) (v := ?_) (a' := ?_) #[true,true,false,false,false,false,false,false] rfl rfl (take_ofW HT_.out HW_.out (by kernel_rfl)) (fun _ _ _ h => h) (Or.inl ⟨by rfl, ?_⟩) hS_ ?_ ?_
             rotate_left; · (rintro w' s0; go_simp; with_reducible rfl)
             rotate_left; · (simp only [Act.put, List.setIfInBounds_toArray, List.set_cons_zero, List.set_cons_succ]; rfl)
             refine pure_ (i := 2) (N := some 71) (v := ?_) (a' := ?_) #[true,true,true,false,false,false,false,false] rfl rfl (any_of HT_.out (by kernel_rfl)) (fun _ _ _ h => h) (Or.inl ⟨by rfl, ?_⟩) ?_ ?_
             rotate_left; · (intro w'; go_simp; with_reducible rfl)
             rotate_left; · (simp only [Act.put, List.setIfInBounds_toArray, List.set_cons_zero, List.set_cons_succ]; rfl)
             refine one_ (i := 3) (N := some 72) #[true,true,true,true,false,false,false,false] rfl rfl (one_of HT_.out (by kernel_rfl)) (by decide) (fun K hK => ?_)
             refine goesP Try.func66 (by kernel_rfl) rfl #[.pointer (some ⟨g, 0, none⟩)] (by rfl) rfl rfl (by simp only [List.map_toArray, List.map_cons, List.map_nil]; rfl) ?_
             refine (term_calls (w0 := w0) (T := T) (s := s) (n := m + 1) hP3.out.drew (Bel.drew hB3.out) hT).mono ?_
             rw [← hr.out]
             rintro e w4 ⟨⟨v1, rfl, rfl⟩, hP4, hF4⟩
             refine .inl ⟨_, rfl, ?_⟩
             refine hK.out _ _ (hF4.cell (p := ⟨w.heap.size + 1, 5, none⟩) hS_ (by simp; omega)) (fun hS_ => ?_)
             clear hK K
             refine norm_ (a' := ?_) ?_ ?_
             rotate_left; · (show Act.put _ (some 72) _ = _; simp only [Act.put, List.setIfInBounds_toArray, List.set_cons_zero, List.set_cons_succ]; rfl)
             refine one_ (i := 4) (N := some 73) #[true,true,true,true,true,false,false,false] rfl rfl (one_of HT_.out (by kernel_rfl)) (by decide) (fun K hK => ?_)
             refine value_ (w1 := ?_) (v := ?_) (by rfl) rfl ?_ ?_
             rotate_left 2; · (go_simp; constructor; rfl; rfl)
             refine hK.out _ _ (cell_alloc hS_ _) (fun hS_ => ?_)
             clear hK K
             refine norm_ (a' := ?_) ?_ ?_
             rotate_left; · (show Act.put _ (some 73) _ = _; simp only [Act.put, List.setIfInBounds_toArray, List.set_cons_zero, List.set_cons_succ]; rfl)
             refine one_ (i := 5) (N := some 74) #[true,true,true,true,true,true,false,false] rfl rfl (one_of HT_.out (by kernel_rfl)) (by decide) (fun K hK => ?_)
             refine Kd.R_append_step kTerm (w0 := w4) (w.heap.size + 2) (by rfl) (.tmp 70) (.tmp 73) 26 25 (.agg #[.string ⟨#[]⟩, .string ⟨#[]⟩, .int .i64 0]) 40 (by rfl) Try.underlying26 info_term (by rfl) (by decide) (by omega) v3 [a] c [.string c.var, .string c.val.sym, .int .i64 c.val.num] (fun q => w.heap.size + 2 ≤ q) (fun _ => False) (by rfl) (by rfl) (kTerm_mkM _ _ _ c) (fun _ hk => hk.elim) (fun _ hk => Nat.le_trans (Nat.le_trans hz3 hF4.size) hk) (hF4.R (Kd.R_drew hR3.out) (fun q hq e => by have : q = g := e; omega)) (Below.refl _ _) (Nat.le_trans hz3 hF4.size) (by simp) ?_
             intro v5 w5 hR5 hB5 hg5 hat5
             obtain ⟨gg, cap, rfl, hgg⟩ := Kd.R_form hR5 (by simp)
             have bk5 : ∀ x o, w3.heap[x]? = some o → x ≠ g → x < w.heap.size + 2 → w5.heap[x]? = some o := fun x o ho hx hxB => (hg5.block x (Nat.lt_of_lt_of_le (blk_lt ho) hF4.size) (fun e => absurd (hR3.out.1 x e.symm) (Nat.not_le.mpr hxB))).trans (hF4.blk (blk_drew ho) hx)
             have hL5 := Aside0.mk (bk5 _ _ hL3.out (by omega) (by omega))
             have hD5 := Aside0.mk (bk5 _ _ hD3.out (by omega) (by omega))
             have hg5g : w5.heap[g]? = w4.heap[g]? := hg5.block g hP4.lt (fun e => absurd (hR3.out.1 g e.symm) (by omega))
             have hP5 : Aside0 (PAt w0 T s w5 g _) := ⟨by obtain ⟨A, c, hx, rr⟩ := hP4; exact ⟨A, c, hg5g.trans hx, rr⟩⟩
             have hF5 := Aside0.mk ((hF3.out.drew.trans hF4).step (Fr.of_grown hg5 (S := fun q => w.heap.size + 2 ≤ q) (fun q e => Or.inl (hR3.out.1 q e))) (fun q hq => Or.inr (by omega)))
             have hz5 : w4.heap.size ≤ w5.heap.size := hg5.size
             have hR5 := Aside0.mk hR5
             clear bk5 hg5g hg5 hB5 hat5 hgg
             refine hK.out _ _ ((blk_cell hL5.out 5).trans rfl) (fun hS_ => ?_)
             clear hK K
             refine norm_ (a' := ?_) ?_ ?_
             rotate_left; · (show Act.put _ (some 74) _ = _; simp only [Act.put, List.setIfInBounds_toArray, List.set_cons_zero, List.set_cons_succ]; rfl)
             refine pure_ (i := 6) (N := some 75) (v := ?_) (a' := ?_) #[true,true,true,true,true,true,true,false] rfl rfl (any_of HT_.out (by kernel_rfl)) (fun _ _ _ h => h) (Or.inl ⟨by rfl, ?_⟩) ?_ ?_
             rotate_left; · (intro w'; go_simp; with_reducible rfl)
             rotate_left; · (simp only [Act.put, List.setIfInBounds_toArray, List.set_cons_zero, List.set_cons_succ]; rfl)
             refine last_ (i := 7) (N := none) #[true,true,true,true,true,true,true,true] rfl rfl (one_of HT_.out (by kernel_rfl)) (by decide) (fun K hK => ?_)
             have e5 : w5.cell? ⟨w.heap.size + 1, 5, none⟩ = some v3 := (blk_cell hL5.out 5).trans rfl
             have f5 : w5.frozen? ⟨w.heap.size + 1, 5, none⟩ = false := blk_frozen hL5.out 5
             refine skip_ (w1 := ?_) (by rfl) rfl ?_ ?_
             rotate_left; · (go_simp; rfl)
             refine hK.out _ _ ?_
             clear hK K
             refine wpAnyLast_done (by kernel_rfl) ?_ _
             have hS5 := LitSt.app hB0.out hgw hg0 hP5.out hF5.out hL5.out hD5.out hR5.out (Nat.le_trans (Nat.le_trans hz3 hF4.size) hz5)
             refine then_world (fun w' => LitSt w0 T s g w j 4 _ [a, c] w') hS5 (fun w3 hS3 => ?_)
             replace hS3 := Aside0.mk hS3
             have hz9 := blk_lt hS3.out.d
             have e0 : w3.cell? ⟨w.heap.size + 1, 0, none⟩ = some (.int .u8 (⟨4, Term.z, noStr, [a, c]⟩ : Lit).kind) := (blk_cell hS3.out.l 0).trans rfl
             have e1 : w3.cell? ⟨w.heap.size + 1, 1, none⟩ = some (.string (⟨4, Term.z, noStr, [a, c]⟩ : Lit).who.var) := (blk_cell hS3.out.l 1).trans rfl
             have e2 : w3.cell? ⟨w.heap.size + 1, 2, none⟩ = some (.string (⟨4, Term.z, noStr, [a, c]⟩ : Lit).who.val.sym) := (blk_cell hS3.out.l 2).trans rfl
             have e3 : w3.cell? ⟨w.heap.size + 1, 3, none⟩ = some (.int .i64 (⟨4, Term.z, noStr, [a, c]⟩ : Lit).who.val.num) := (blk_cell hS3.out.l 3).trans rfl
             have e4 : w3.cell? ⟨w.heap.size + 1, 4, none⟩ = some (.string (⟨4, Term.z, noStr, [a, c]⟩ : Lit).pred) := (blk_cell hS3.out.l 4).trans rfl
             have e5 : w3.cell? ⟨w.heap.size + 1, 5, none⟩ = some (.slice (some ⟨gg, 0, none⟩) 2 cap) := (blk_cell hS3.out.l 5).trans rfl
             have d0 : w3.cell? ⟨w.heap.size, 0, none⟩ = some (.int .u8 0) := (blk_cell hS3.out.d 0).trans rfl
             have d1 : w3.cell? ⟨w.heap.size, 1, none⟩ = some (.string ⟨#[]⟩) := (blk_cell hS3.out.d 1).trans rfl
             have d2 : w3.cell? ⟨w.heap.size, 2, none⟩ = some (.string ⟨#[]⟩) := (blk_cell hS3.out.d 2).trans rfl
             have d3 : w3.cell? ⟨w.heap.size, 3, none⟩ = some (.int .i64 0) := (blk_cell hS3.out.d 3).trans rfl
             have d4 : w3.cell? ⟨w.heap.size, 4, none⟩ = some (.string ⟨#[]⟩) := (blk_cell hS3.out.d 4).trans rfl
             have d5 : w3.cell? ⟨w.heap.size, 5, none⟩ = some (.slice none 0 0) := (blk_cell hS3.out.d 5).trans rfl
             have f0 := blk_frozen hS3.out.d 0
             have f1 := blk_frozen hS3.out.d 1
             have f2 := blk_frozen hS3.out.d 2
             have f3 := blk_frozen hS3.out.d 3
             have f4 := blk_frozen hS3.out.d 4
             have f5 := blk_frozen hS3.out.d 5
             go_wp2
             exact lit_end (l := ⟨4, Term.z, noStr, [a, c]⟩) (av := .slice (some ⟨gg, 0, none⟩) 2 cap) rfl rfl hS3.out.d (Kd.R_lower hS3.out.r (by omega)) hS3.out.p hS3.out.f hgw hE4.out
     · replace hb1 := Aside0.mk hb1
       go_enter Try.func36, Try.ntmps36
       go_wp2_with fail
       refine (is_calls 0 n nots (by omega) hS0.out.p hS0.out.b hT (by omega)).mono ?_; rintro e w1 ⟨rfl, hd⟩
       rw [hn.out]
       have hS1 := Aside0.mk (hS0.out.drawn hd)
       clear hd hS0
       go_wp2_with fail
       refine (kind_calls hS1.out.p hS1.out.b).mono ?_; rintro e w2 ⟨rfl, hd⟩
       have hS2 := Aside0.mk (hS1.out.drawn hd)
       clear hd hS1
       go_wp2_with fail
       refine (is_calls 1 (n + 1) less (by omega) hS2.out.p hS2.out.b hT (by omega)).mono ?_; rintro e w3 ⟨rfl, hd⟩
       rw [hb1.out]
       have hS3 := Aside0.mk (hS2.out.drawn hd)
       clear hd hS2
       have e0 : w3.cell? ⟨w.heap.size + 1, 0, none⟩ = some (.int .u8 1) := (blk_cell hS3.out.l 0).trans rfl
       have f0 := blk_frozen hS3.out.l 0
       go_wp2_with fail
       obtain ⟨v3, hv3⟩ : ∃ v3, v3 = Value.slice none 0 0 := ⟨_, rfl⟩
       refine wp_world (fun w' => LitSt w0 T s g w n 3 v3 [] w') (by rw [hv3]; exact hS3.out.kind hgw hBz 3) (fun w3 hS3 => ?_)
       replace hS3 := Aside0.mk hS3
       clear e0 f0 hv3
       have hP3 := Aside0.mk hS3.out.p
       have hB3 := Aside0.mk hS3.out.b
       have hF3 := Aside0.mk hS3.out.f
       have hL3 := Aside0.mk hS3.out.l
       have hD3 := Aside0.mk hS3.out.d
       have hR3 := Aside0.mk hS3.out.r
       have hz3 := hS3.out.z
       have c5 : w3.cell? ⟨w.heap.size + 1, 5, none⟩ = some v3 := (blk_cell hL3.out 5).trans rfl
       obtain ⟨r, hr⟩ : ∃ r, r = termP T s n := ⟨_, rfl⟩
       cases r with
       | error p =>
         have hE2 := Aside0.mk (show literalP T s n = .error p by rw [hE.out, ← hr])
         replace hr := Aside0.mk hr
         refine start_ (n := 8) (S := fun w' => w'.cell? ⟨w.heap.size + 1, 5, none⟩ = some v3) (ds := [7]) #[false,false,false,false,false,false,false,false] rfl rfl rfl c5 (fun hS_ => ?_)
         refine with_tabW rLit11.tab rLit11.bits (fun HT_ HW_ => ?_)
         refine pure_ (i := 0) (N := some 47) (v := ?_) (a' := ?_) #[true,false,false,false,false,false,false,false] rfl rfl (any_of HT_.out (by kernel_rfl)) (fun _ _ _ h => h) (Or.inl ⟨by rfl, ?_⟩) ?_ ?_
         rotate_left; · (intro w'; go_simp; with_reducible rfl)
         rotate_left; · (simp only [Act.put, List.setIfInBounds_toArray, List.set_cons_zero, List.set_cons_succ]; rfl)
         refine take_ (i := 1) (N := some 48) (v := ?_) (a' := ?_) #[true,true,false,false,false,false,false,false] rfl rfl (take_ofW HT_.out HW_.out (by kernel_rfl)) (fun _ _ _ h => h) (Or.inl ⟨by rfl, ?_⟩) hS_ ?_ ?_
         rotate_left; · (rintro w' s0; go_simp; with_reducible rfl)
         rotate_left; · (simp only [Act.put, List.setIfInBounds_toArray, List.set_cons_zero, List.set_cons_succ]; rfl)
         refine pure_ (i := 2) (N := some 49) (v := ?_) (a' := ?_) #[true,true,true,false,false,false,false,false] rfl rfl (any_of HT_.out (by kernel_rfl)) (fun _ _ _ h => h) (Or.inl ⟨by rfl, ?_⟩) ?_ ?_
         rotate_left; · (intro w'; go_simp; with_reducible rfl)
         rotate_left; · (simp only [Act.put, List.setIfInBounds_toArray, List.set_cons_zero, List.set_cons_succ]; rfl)
         refine one_ (i := 3) (N := some 50) #[true,true,true,true,false,false,false,false] rfl rfl (one_of HT_.out (by kernel_rfl)) (by decide) (fun K hK => ?_)
         refine goesP Try.func66 (by kernel_rfl) rfl #[.pointer (some ⟨g, 0, none⟩)] (by rfl) rfl rfl (by simp only [List.map_toArray, List.map_cons, List.map_nil]; rfl) ?_
         refine (term_calls (w0 := w0) (T := T) (s := s) (n := n) hP3.out.drew (Bel.drew hB3.out) hT).mono ?_
         rw [← hr.out]
         rintro e w4 ⟨rfl, hF4⟩
         refine .inr ⟨_, rfl, ?_⟩
         refine ⟨rfl, ?_⟩
         rw [hE2.out]
         exact ⟨rfl, hF3.out.drew.trans hF4⟩
       | ok r =>
         obtain ⟨a, m⟩ := r
         have hE2 := Aside0.mk (show literalP T s n = if isT T s m unlike then pairP T s 4 a m else if isT T s m less then pairP T s 3 a m else .error (posOf T s m, 6) by rw [hE.out, ← hr])
         replace hr := Aside0.mk hr
         refine start_ (n := 8) (S := fun w' => w'.cell? ⟨w.heap.size + 1, 5, none⟩ = some v3) (ds := [7]) #[false,false,false,false,false,false,false,false] rfl rfl rfl c5 (fun hS_ => ?_)
         refine with_tabW rLit11.tab rLit11.bits (fun HT_ HW_ => ?_)
         refine pure_ (i := 0) (N := some 47) (v := ?_) (a' := ?_) #[true,false,false,false,false,false,false,false] rfl rfl (any_of HT_.out (by kernel_rfl)) (fun _ _ _ h => h) (Or.inl ⟨by rfl, ?_⟩) ?_ ?_
         rotate_left; · (intro w'; go_simp; with_reducible rfl)
         rotate_left; · (simp only [Act.put, List.setIfInBounds_toArray, List.set_cons_zero, List.set_cons_succ]; rfl)
         refine take_ (i := 1) (N := some 48) (v := ?_) (a' := ?_) #[true,true,false,false,false,false,false,false] rfl rfl (take_ofW HT_.out HW_.out (by kernel_rfl)) (fun _ _ _ h => h) (Or.inl ⟨by rfl, ?_⟩) hS_ ?_ ?_
         rotate_left; · (rintro w' s0; go_simp; with_reducible rfl)
         rotate_left; · (simp only [Act.put, List.setIfInBounds_toArray, List.set_cons_zero, List.set_cons_succ]; rfl)
         refine pure_ (i := 2) (N := some 49) (v := ?_) (a' := ?_) #[true,true,true,false,false,false,false,false] rfl rfl (any_of HT_.out (by kernel_rfl)) (fun _ _ _ h => h) (Or.inl ⟨by rfl, ?_⟩) ?_ ?_
         rotate_left; · (intro w'; go_simp; with_reducible rfl)
         rotate_left; · (simp only [Act.put, List.setIfInBounds_toArray, List.set_cons_zero, List.set_cons_succ]; rfl)
         refine one_ (i := 3) (N := some 50) #[true,true,true,true,false,false,false,false] rfl rfl (one_of HT_.out (by kernel_rfl)) (by decide) (fun K hK => ?_)
         refine goesP Try.func66 (by kernel_rfl) rfl #[.pointer (some ⟨g, 0, none⟩)] (by rfl) rfl rfl (by simp only [List.map_toArray, List.map_cons, List.map_nil]; rfl) ?_
         refine (term_calls (w0 := w0) (T := T) (s := s) (n := n) hP3.out.drew (Bel.drew hB3.out) hT).mono ?_
         rw [← hr.out]
         rintro e w4 ⟨⟨v1, rfl, rfl⟩, hP4, hF4⟩
         refine .inl ⟨_, rfl, ?_⟩
         refine hK.out _ _ (hF4.cell (p := ⟨w.heap.size + 1, 5, none⟩) hS_ (by simp; omega)) (fun hS_ => ?_)
         clear hK K
         refine norm_ (a' := ?_) ?_ ?_
         rotate_left; · (show Act.put _ (some 50) _ = _; simp only [Act.put, List.setIfInBounds_toArray, List.set_cons_zero, List.set_cons_succ]; rfl)
         refine one_ (i := 4) (N := some 51) #[true,true,true,true,true,false,false,false] rfl rfl (one_of HT_.out (by kernel_rfl)) (by decide) (fun K hK => ?_)
         refine value_ (w1 := ?_) (v := ?_) (by rfl) rfl ?_ ?_
         rotate_left 2; · (go_simp; constructor; rfl; rfl)
         refine hK.out _ _ (cell_alloc hS_ _) (fun hS_ => ?_)
         clear hK K
         refine norm_ (a' := ?_) ?_ ?_
         rotate_left; · (show Act.put _ (some 51) _ = _; simp only [Act.put, List.setIfInBounds_toArray, List.set_cons_zero, List.set_cons_succ]; rfl)
         refine one_ (i := 5) (N := some 52) #[true,true,true,true,true,true,false,false] rfl rfl (one_of HT_.out (by kernel_rfl)) (by decide) (fun K hK => ?_)
         refine Kd.R_append_step kTerm (w0 := w4) (w.heap.size + 2) (by rfl) (.tmp 48) (.tmp 51) 26 25 (.agg #[.string ⟨#[]⟩, .string ⟨#[]⟩, .int .i64 0]) 40 (by rfl) Try.underlying26 info_term (by rfl) (by decide) (by omega) v3 [] a [.string a.var, .string a.val.sym, .int .i64 a.val.num] (fun q => w.heap.size + 2 ≤ q) (fun _ => False) (by rfl) (by rfl) (kTerm_mkM _ _ _ a) (fun _ hk => hk.elim) (fun _ hk => Nat.le_trans (Nat.le_trans hz3 hF4.size) hk) (hF4.R (Kd.R_drew hR3.out) (fun q hq e => by have : q = g := e; omega)) (Below.refl _ _) (Nat.le_trans hz3 hF4.size) (by simp) ?_
         intro v5 w5 hR5 hB5 hg5 hat5
         obtain ⟨gg, cap, rfl, hgg⟩ := Kd.R_form hR5 (by simp)
         have bk5 : ∀ x o, w3.heap[x]? = some o → x ≠ g → x < w.heap.size + 2 → w5.heap[x]? = some o := fun x o ho hx hxB => (hg5.block x (Nat.lt_of_lt_of_le (blk_lt ho) hF4.size) (fun e => absurd (hR3.out.1 x e.symm) (Nat.not_le.mpr hxB))).trans (hF4.blk (blk_drew ho) hx)
         have hL5 := Aside0.mk (bk5 _ _ hL3.out (by omega) (by omega))
         have hD5 := Aside0.mk (bk5 _ _ hD3.out (by omega) (by omega))
         have hg5g : w5.heap[g]? = w4.heap[g]? := hg5.block g hP4.lt (fun e => absurd (hR3.out.1 g e.symm) (by omega))
         have hP5 : Aside0 (PAt w0 T s w5 g _) := ⟨by obtain ⟨A, c, hx, rr⟩ := hP4; exact ⟨A, c, hg5g.trans hx, rr⟩⟩
         have hF5 := Aside0.mk ((hF3.out.drew.trans hF4).step (Fr.of_grown hg5 (S := fun q => w.heap.size + 2 ≤ q) (fun q e => Or.inl (hR3.out.1 q e))) (fun q hq => Or.inr (by omega)))
         have hz5 : w4.heap.size ≤ w5.heap.size := hg5.size
         have hR5 := Aside0.mk hR5
         clear bk5 hg5g hg5 hB5 hat5 hgg
         refine hK.out _ _ ((blk_cell hL5.out 5).trans rfl) (fun hS_ => ?_)
         clear hK K
         refine norm_ (a' := ?_) ?_ ?_
         rotate_left; · (show Act.put _ (some 52) _ = _; simp only [Act.put, List.setIfInBounds_toArray, List.set_cons_zero, List.set_cons_succ]; rfl)
         refine pure_ (i := 6) (N := some 53) (v := ?_) (a' := ?_) #[true,true,true,true,true,true,true,false] rfl rfl (any_of HT_.out (by kernel_rfl)) (fun _ _ _ h => h) (Or.inl ⟨by rfl, ?_⟩) ?_ ?_
         rotate_left; · (intro w'; go_simp; with_reducible rfl)
         rotate_left; · (simp only [Act.put, List.setIfInBounds_toArray, List.set_cons_zero, List.set_cons_succ]; rfl)
         refine last_ (i := 7) (N := none) #[true,true,true,true,true,true,true,true] rfl rfl (one_of HT_.out (by kernel_rfl)) (by decide) (fun K hK => ?_)
         have e5 : w5.cell? ⟨w.heap.size + 1, 5, none⟩ = some v3 := (blk_cell hL5.out 5).trans rfl
         have f5 : w5.frozen? ⟨w.heap.size + 1, 5, none⟩ = false := blk_frozen hL5.out 5
         refine skip_ (w1 := ?_) (by rfl) rfl ?_ ?_
         rotate_left; · (go_simp; rfl)
         refine hK.out _ _ ?_
         clear hK K
         refine wpAnyLast_done (by kernel_rfl) ?_ _
         have hS5 := LitSt.app hB0.out hgw hg0 hP5.out hF5.out hL5.out hD5.out hR5.out (Nat.le_trans (Nat.le_trans hz3 hF4.size) hz5)
         refine then_world (fun w' => LitSt w0 T s g w m 3 _ [a] w') hS5 (fun w3 hS3 => ?_)
         replace hS3 := Aside0.mk hS3
         have hmx := hS3.out.p.max
         clear hP3 hB3 hF3 hL3 hD3 hR3 hr hP4 hF4 hP5 hF5 hL5 hD5 hR5 hS_ HT_ HW_ c5
         skip
         cases hu : isT T s m unlike
         · cases hl : isT T s m less
           · have hE3 := Aside0.mk (show literalP T s n = .error (posOf T s m, 6) by rw [hE2.out, hu, hl]; rfl)
             replace hu := Aside0.mk hu
             replace hl := Aside0.mk hl
             go_wp2_with fail
             refine (is_calls 0 m unlike (by omega) hS3.out.p hS3.out.b hT (by omega)).mono ?_; rintro e w7 ⟨rfl, hd⟩
             rw [hu.out]
             have hS7 := Aside0.mk (hS3.out.drawn hd)
             clear hd hS3
             go_wp2_with fail
             refine (is_calls 0 m less (by omega) hS7.out.p hS7.out.b hT (by omega)).mono ?_; rintro e w8 ⟨rfl, hd⟩
             rw [hl.out]
             have hS8 := Aside0.mk (hS7.out.drawn hd)
             clear hd hS7
             go_wp2_with fail
             refine (fail_calls 6 hS8.out.p hS8.out.b).mono ?_; rintro e w9 ⟨rfl, hd⟩
             go_wp2
             refine ⟨rfl, ?_⟩
             rw [hE3.out]
             exact ⟨rfl, hS8.out.f.drawn hd⟩
           · have hE3 := Aside0.mk (show literalP T s n = pairP T s 3 a m by rw [hE2.out, hu, hl]; rfl)
             have hlt := isT_lt hl
             replace hu := Aside0.mk hu
             replace hl := Aside0.mk hl
             go_wp2_with fail
             refine (is_calls 0 m unlike (by omega) hS3.out.p hS3.out.b hT (by omega)).mono ?_; rintro e w7 ⟨rfl, hd⟩
             rw [hu.out]
             have hS7 := Aside0.mk (hS3.out.drawn hd)
             clear hd hS3
             go_wp2_with fail
             refine (is_calls 0 m less (by omega) hS7.out.p hS7.out.b hT (by omega)).mono ?_; rintro e w8 ⟨rfl, hd⟩
             rw [hl.out]
             have hS8 := Aside0.mk (hS7.out.drawn hd)
             clear hd hS7
             have e0 : w8.cell? ⟨w.heap.size + 1, 0, none⟩ = some (.int .u8 3) := (blk_cell hS8.out.l 0).trans rfl
             have f0 := blk_frozen hS8.out.l 0
             obtain ⟨A1, c1, p0, p1, p2, q2, hm, _, _⟩ := hS8.out.p.cells
             go_wp2_with fail
             obtain ⟨v3, hv3⟩ : ∃ v3, LitSt w0 T s g w m 3 v3 [a] w8 := ⟨_, hS8.out⟩
             refine wp_world (fun w' => LitSt w0 T s g w (m + 1) 3 v3 [a] w') (hv3.to hgw (m + 1) ((m : Int) + 1) (by omega) (by omega)) (fun w3 hS3 => ?_)
             replace hS3 := Aside0.mk hS3
             clear hS8 e0 f0 p0 p1 p2 q2 hE2 hv3
             have hP3 := Aside0.mk hS3.out.p
             have hB3 := Aside0.mk hS3.out.b
             have hF3 := Aside0.mk hS3.out.f
             have hL3 := Aside0.mk hS3.out.l
             have hD3 := Aside0.mk hS3.out.d
             have hR3 := Aside0.mk hS3.out.r
             have hz3 := hS3.out.z
             have c5 : w3.cell? ⟨w.heap.size + 1, 5, none⟩ = some v3 := (blk_cell hL3.out 5).trans rfl
             obtain ⟨r, hr⟩ : ∃ r, r = termP T s (m + 1) := ⟨_, rfl⟩
             cases r with
             | error p =>
               have hE4 := Aside0.mk (show literalP T s n = .error p by rw [hE3.out]; unfold pairP; rw [← hr])
               replace hr := Aside0.mk hr
               refine start_ (n := 8) (S := fun w' => w'.cell? ⟨w.heap.size + 1, 5, none⟩ = some v3) (ds := [7]) #[false,false,false,false,false,false,false,false] rfl rfl rfl c5 (fun hS_ => ?_)
               refine with_tabW rLit17.tab rLit17.bits (fun HT_ HW_ => ?_)
               refine pure_ (i := 0) (N := some 69) (v := ?_) (a' := ?_) #[true,false,false,false,false,false,false,false] rfl rfl (any_of HT_.out (by kernel_rfl)) (fun _ _ _ h => h) (Or.inl ⟨by rfl, ?_⟩) ?_ ?_
               rotate_left; · (intro w'; go_simp; with_reducible rfl)
               rotate_left; · (simp only [Act.put, List.setIfInBounds_toArray, List.set_cons_zero, List.set_cons_succ]; rfl)
               refine take_ (i := 1) (N := some 70) (v := ?_) (a' := ?_) #[true,true,false,false,false,false,false,false] rfl rfl (take_ofW HT_.out HW_.out (by kernel_rfl)) (fun _ _ _ h => h) (Or.inl ⟨by rfl, ?_⟩) hS_ ?_ ?_
               rotate_left; · (rintro w' s0; go_simp; with_reducible rfl)
               rotate_left; · (simp only [Act.put, List.setIfInBounds_toArray, List.set_cons_zero, List.set_cons_succ]; rfl)
               refine pure_ (i := 2) (N := some 71) (v := ?_) (a' := ?_) #[true,true,true,false,false,false,false,false] rfl rfl (any_of HT_.out (by kernel_rfl)) (fun _ _ _ h => h) (Or.inl ⟨by rfl, ?_⟩) ?_ ?_
               rotate_left; · (intro w'; go_simp; with_reducible rfl)
               rotate_left; · (simp only [Act.put, List.setIfInBounds_toArray, List.set_cons_zero, List.set_cons_succ]; rfl)
               refine one_ (i := 3) (N := some 72) #[true,true,true,true,false,false,false,false] rfl rfl (one_of HT_.out (by kernel_rfl)) (by decide) (fun K hK => ?_)
               refine goesP Try.func66 (by kernel_rfl) rfl #[.pointer (some ⟨g, 0, none⟩)] (by rfl) rfl rfl (by simp only [List.map_toArray, List.map_cons, List.map_nil]; rfl) ?_
               refine (term_calls (w0 := w0) (T := T) (s := s) (n := m + 1) hP3.out.drew (Bel.drew hB3.out) hT).mono ?_
               rw [← hr.out]
               rintro e w4 ⟨rfl, hF4⟩
               refine .inr ⟨_, rfl, ?_⟩
               refine ⟨rfl, ?_⟩
               rw [hE4.out]
               exact ⟨rfl, hF3.out.drew.trans hF4⟩
             | ok r =>
               obtain ⟨c, j⟩ := r
               have hE4 := Aside0.mk (show literalP T s n = .ok (⟨3, Term.z, noStr, [a, c]⟩, j) by rw [hE3.out]; unfold pairP; rw [← hr])
               replace hr := Aside0.mk hr
               refine start_ (n := 8) (S := fun w' => w'.cell? ⟨w.heap.size + 1, 5, none⟩ = some v3) (ds := [7]) #[false,false,false,false,false,false,false,false] rfl rfl rfl c5 (fun hS_ => ?_)
               refine with_tabW rLit17.tab rLit17.bits (fun HT_ HW_ => ?_)
               refine pure_ (i := 0) (N := some 69) (v := ?_) (a' := ?_) #[true,false,false,false,false,false,false,false] rfl rfl (any_of HT_.out (by kernel_rfl)) (fun _ _ _ h => h) (Or.inl ⟨by rfl, ?_⟩) ?_ ?_
               rotate_left; · (intro w'; go_simp; with_reducible rfl)
               rotate_left; · (simp only [Act.put, List.setIfInBounds_toArray, List.set_cons_zero, List.set_cons_succ]; rfl)
               refine take_ (i := 1) (N := some 70) (v := ?_) (a' := ?_) #[true,true,false,false,false,false,false,false] rfl rfl (take_ofW HT_.out HW_.out (by kernel_rfl)) (fun _ _ _ h => h) (Or.inl ⟨by rfl, ?_⟩) hS_ ?_ ?_
               rotate_left; · (rintro w' s0; go_simp; with_reducible rfl)
               rotate_left; · (simp only [Act.put, List.setIfInBounds_toArray, List.set_cons_zero, List.set_cons_succ]; rfl)
               refine pure_ (i := 2) (N := some 71) (v := ?_) (a' := ?_) #[true,true,true,false,false,false,false,false] rfl rfl (any_of HT_.out (by kernel_rfl)) (fun _ _ _ h => h) (Or.inl ⟨by rfl, ?_⟩) ?_ ?_
               rotate_left; · (intro w'; go_simp; with_reducible rfl)
               rotate_left; · (simp only [Act.put, List.setIfInBounds_toArray, List.set_cons_zero, List.set_cons_succ]; rfl)
               refine one_ (i := 3) (N := some 72) #[true,true,true,true,false,false,false,false] rfl rfl (one_of HT_.out (by kernel_rfl)) (by decide) (fun K hK => ?_)
               refine goesP Try.func66 (by kernel_rfl) rfl #[.pointer (some ⟨g, 0, none⟩)] (by rfl) rfl rfl (by simp only [List.map_toArray, List.map_cons, List.map_nil]; rfl) ?_
               refine (term_calls (w0 := w0) (T := T) (s := s) (n := m + 1) hP3.out.drew (Bel.drew hB3.out) hT).mono ?_
               rw [← hr.out]
               rintro e w4 ⟨⟨v1, rfl, rfl⟩, hP4, hF4⟩
               refine .inl ⟨_, rfl, ?_⟩
               refine hK.out _ _ (hF4.cell (p := ⟨w.heap.size + 1, 5, none⟩) hS_ (by simp; omega)) (fun hS_ => ?_)
               clear hK K
               refine norm_ (a' := ?_) ?_ ?_
               rotate_left; · (show Act.put _ (some 72) _ = _; simp only [Act.put, List.setIfInBounds_toArray, List.set_cons_zero, List.set_cons_succ]; rfl)
               refine one_ (i := 4) (N := some 73) #[true,true,true,true,true,false,false,false] rfl rfl (one_of HT_.out (by kernel_rfl)) (by decide) (fun K hK => ?_)
               refine value_ (w1 := ?_) (v := ?_) (by rfl) rfl ?_ ?_
               rotate_left 2; · (go_simp; constructor; rfl; rfl)
               refine hK.out _ _ (cell_alloc hS_ _) (fun hS_ => ?_)
               clear hK K
               refine norm_ (a' := ?_) ?_ ?_
               rotate_left; · (show Act.put _ (some 73) _ = _; simp only [Act.put, List.setIfInBounds_toArray, List.set_cons_zero, List.set_cons_succ]; rfl)
               refine one_ (i := 5) (N := some 74) #[true,true,true,true,true,true,false,false] rfl rfl (one_of HT_.out (by kernel_rfl)) (by decide) (fun K hK => ?_)
               refine Kd.R_append_step kTerm (w0 := w4) (w.heap.size + 2) (by rfl) (.tmp 70) (.tmp 73) 26 25 (.agg #[.string ⟨#[]⟩, .string ⟨#[]⟩, .int .i64 0]) 40 (by rfl) Try.underlying26 info_term (by rfl) (by decide) (by omega) v3 [a] c [.string c.var, .string c.val.sym, .int .i64 c.val.num] (fun q => w.heap.size + 2 ≤ q) (fun _ => False) (by rfl) (by rfl) (kTerm_mkM _ _ _ c) (fun _ hk => hk.elim) (fun _ hk => Nat.le_trans (Nat.le_trans hz3 hF4.size) hk) (hF4.R (Kd.R_drew hR3.out) (fun q hq e => by have : q = g := e; omega)) (Below.refl _ _) (Nat.le_trans hz3 hF4.size) (by simp) ?_
               intro v5 w5 hR5 hB5 hg5 hat5
               obtain ⟨gg, cap, rfl, hgg⟩ := Kd.R_form hR5 (by simp)
               have bk5 : ∀ x o, w3.heap[x]? = some o → x ≠ g → x < w.heap.size + 2 → w5.heap[x]? = some o := fun x o ho hx hxB => (hg5.block x (Nat.lt_of_lt_of_le (blk_lt ho) hF4.size) (fun e => absurd (hR3.out.1 x e.symm) (Nat.not_le.mpr hxB))).trans (hF4.blk (blk_drew ho) hx)
               have hL5 := Aside0.mk (bk5 _ _ hL3.out (by omega) (by omega))
               have hD5 := Aside0.mk (bk5 _ _ hD3.out (by omega) (by omega))
               have hg5g : w5.heap[g]? = w4.heap[g]? := hg5.block g hP4.lt (fun e => absurd (hR3.out.1 g e.symm) (by omega))
               have hP5 : Aside0 (PAt w0 T s w5 g _) := ⟨by obtain ⟨A, c, hx, rr⟩ := hP4; exact ⟨A, c, hg5g.trans hx, rr⟩⟩
               have hF5 := Aside0.mk ((hF3.out.drew.trans hF4).step (Fr.of_grown hg5 (S := fun q => w.heap.size + 2 ≤ q) (fun q e => Or.inl (hR3.out.1 q e))) (fun q hq => Or.inr (by omega)))
               have hz5 : w4.heap.size ≤ w5.heap.size := hg5.size
               have hR5 := Aside0.mk hR5
               clear bk5 hg5g hg5 hB5 hat5 hgg
               refine hK.out _ _ ((blk_cell hL5.out 5).trans rfl) (fun hS_ => ?_)
               clear hK K
               refine norm_ (a' := ?_) ?_ ?_
               rotate_left; · (show Act.put _ (some 74) _ = _; simp only [Act.put, List.setIfInBounds_toArray, List.set_cons_zero, List.set_cons_succ]; rfl)
               refine pure_ (i := 6) (N := some 75) (v := ?_) (a' := ?_) #[true,true,true,true,true,true,true,false] rfl rfl (any_of HT_.out (by kernel_rfl)) (fun _ _ _ h => h) (Or.inl ⟨by rfl, ?_⟩) ?_ ?_
               rotate_left; · (intro w'; go_simp; with_reducible rfl)
               rotate_left; · (simp only [Act.put, List.setIfInBounds_toArray, List.set_cons_zero, List.set_cons_succ]; rfl)
               refine last_ (i := 7) (N := none) #[true,true,true,true,true,true,true,true] rfl rfl (one_of HT_.out (by kernel_rfl)) (by decide) (fun K hK => ?_)
               have e5 : w5.cell? ⟨w.heap.size + 1, 5, none⟩ = some v3 := (blk_cell hL5.out 5).trans rfl
               have f5 : w5.frozen? ⟨w.heap.size + 1, 5, none⟩ = false := blk_frozen hL5.out 5
               refine skip_ (w1 := ?_) (by rfl) rfl ?_ ?_
               rotate_left; · (go_simp; rfl)
               refine hK.out _ _ ?_
               clear hK K
               refine wpAnyLast_done (by kernel_rfl) ?_ _
               have hS5 := LitSt.app hB0.out hgw hg0 hP5.out hF5.out hL5.out hD5.out hR5.out (Nat.le_trans (Nat.le_trans hz3 hF4.size) hz5)
               refine then_world (fun w' => LitSt w0 T s g w j 3 _ [a, c] w') hS5 (fun w3 hS3 => ?_)
               replace hS3 := Aside0.mk hS3
               have hz9 := blk_lt hS3.out.d
               have e0 : w3.cell? ⟨w.heap.size + 1, 0, none⟩ = some (.int .u8 (⟨3, Term.z, noStr, [a, c]⟩ : Lit).kind) := (blk_cell hS3.out.l 0).trans rfl
               have e1 : w3.cell? ⟨w.heap.size + 1, 1, none⟩ = some (.string (⟨3, Term.z, noStr, [a, c]⟩ : Lit).who.var) := (blk_cell hS3.out.l 1).trans rfl
               have e2 : w3.cell? ⟨w.heap.size + 1, 2, none⟩ = some (.string (⟨3, Term.z, noStr, [a, c]⟩ : Lit).who.val.sym) := (blk_cell hS3.out.l 2).trans rfl
               have e3 : w3.cell? ⟨w.heap.size + 1, 3, none⟩ = some (.int .i64 (⟨3, Term.z, noStr, [a, c]⟩ : Lit).who.val.num) := (blk_cell hS3.out.l 3).trans rfl
               have e4 : w3.cell? ⟨w.heap.size + 1, 4, none⟩ = some (.string (⟨3, Term.z, noStr, [a, c]⟩ : Lit).pred) := (blk_cell hS3.out.l 4).trans rfl
               have e5 : w3.cell? ⟨w.heap.size + 1, 5, none⟩ = some (.slice (some ⟨gg, 0, none⟩) 2 cap) := (blk_cell hS3.out.l 5).trans rfl
               have d0 : w3.cell? ⟨w.heap.size, 0, none⟩ = some (.int .u8 0) := (blk_cell hS3.out.d 0).trans rfl
               have d1 : w3.cell? ⟨w.heap.size, 1, none⟩ = some (.string ⟨#[]⟩) := (blk_cell hS3.out.d 1).trans rfl
               have d2 : w3.cell? ⟨w.heap.size, 2, none⟩ = some (.string ⟨#[]⟩) := (blk_cell hS3.out.d 2).trans rfl
               have d3 : w3.cell? ⟨w.heap.size, 3, none⟩ = some (.int .i64 0) := (blk_cell hS3.out.d 3).trans rfl
               have d4 : w3.cell? ⟨w.heap.size, 4, none⟩ = some (.string ⟨#[]⟩) := (blk_cell hS3.out.d 4).trans rfl
               have d5 : w3.cell? ⟨w.heap.size, 5, none⟩ = some (.slice none 0 0) := (blk_cell hS3.out.d 5).trans rfl
               have f0 := blk_frozen hS3.out.d 0
               have f1 := blk_frozen hS3.out.d 1
               have f2 := blk_frozen hS3.out.d 2
               have f3 := blk_frozen hS3.out.d 3
               have f4 := blk_frozen hS3.out.d 4
               have f5 := blk_frozen hS3.out.d 5
               go_wp2
               exact lit_end (l := ⟨3, Term.z, noStr, [a, c]⟩) (av := .slice (some ⟨gg, 0, none⟩) 2 cap) rfl rfl hS3.out.d (Kd.R_lower hS3.out.r (by omega)) hS3.out.p hS3.out.f hgw hE4.out
         · have hE3 := Aside0.mk (show literalP T s n = pairP T s 4 a m by rw [hE2.out, hu]; rfl)
           have hlt := isT_lt hu
           replace hu := Aside0.mk hu
           go_wp2_with fail
           refine (is_calls 0 m unlike (by omega) hS3.out.p hS3.out.b hT (by omega)).mono ?_; rintro e w7 ⟨rfl, hd⟩
           rw [hu.out]
           have hS7 := Aside0.mk (hS3.out.drawn hd)
           clear hd hS3
           have e0 : w7.cell? ⟨w.heap.size + 1, 0, none⟩ = some (.int .u8 3) := (blk_cell hS7.out.l 0).trans rfl
           have f0 := blk_frozen hS7.out.l 0
           obtain ⟨A1, c1, p0, p1, p2, q2, hm, _, _⟩ := hS7.out.p.cells
           go_wp2_with fail
           obtain ⟨v3, hv3⟩ : ∃ v3, LitSt w0 T s g w m 3 v3 [a] w7 := ⟨_, hS7.out⟩
           refine wp_world (fun w' => LitSt w0 T s g w (m + 1) 4 v3 [a] w') ((hv3.kind hgw hBz 4).to hgw (m + 1) ((m : Int) + 1) (by omega) (by omega)) (fun w3 hS3 => ?_)
           replace hS3 := Aside0.mk hS3
           clear hS7 e0 f0 p0 p1 p2 q2 hE2 hv3
           have hP3 := Aside0.mk hS3.out.p
           have hB3 := Aside0.mk hS3.out.b
           have hF3 := Aside0.mk hS3.out.f
           have hL3 := Aside0.mk hS3.out.l
           have hD3 := Aside0.mk hS3.out.d
           have hR3 := Aside0.mk hS3.out.r
           have hz3 := hS3.out.z
           have c5 : w3.cell? ⟨w.heap.size + 1, 5, none⟩ = some v3 := (blk_cell hL3.out 5).trans rfl
           obtain ⟨r, hr⟩ : ∃ r, r = termP T s (m + 1) := ⟨_, rfl⟩
           cases r with
           | error p =>
             have hE4 := Aside0.mk (show literalP T s n = .error p by rw [hE3.out]; unfold pairP; rw [← hr])
             replace hr := Aside0.mk hr
             refine start_ (n := 8) (S := fun w' => w'.cell? ⟨w.heap.size + 1, 5, none⟩ = some v3) (ds := [7]) #[false,false,false,false,false,false,false,false] rfl rfl rfl c5 (fun hS_ => ?_)
             refine with_tabW rLit17.tab rLit17.bits (fun HT_ HW_ => ?_)
             refine pure_ (i := 0) (N := some 69) (v := ?_) (a' := ?_) #[true,false,false,false,false,false,false,false] rfl rfl (any_of HT_.out (by kernel_rfl)) (fun _ _ _ h => h) (Or.inl ⟨by rfl, ?_⟩) ?_ ?_
             rotate_left; · (intro w'; go_simp; with_reducible rfl)
             rotate_left; · (simp only [Act.put, List.setIfInBounds_toArray, List.set_cons_zero, List.set_cons_succ]; rfl)
             refine take_ (i := 1) (N := some 70) (v := ?_) (a' := ?_) #[true,true,false,false,false,false,false,false] rfl rfl (take_ofW HT_.out HW_.out (by kernel_rfl)) (fun _ _ _ h => h) (Or.inl ⟨by rfl, ?_⟩) hS_ ?_ ?_
             rotate_left; · (rintro w' s0; go_simp; with_reducible rfl)
             rotate_left; · (simp only [Act.put, List.setIfInBounds_toArray, List.set_cons_zero, List.set_cons_succ]; rfl)
             refine pure_ (i := 2) (N := some 71) (v := ?_) (a' := ?_) #[true,true,true,false,false,false,false,false] rfl rfl (any_of HT_.out (by kernel_rfl)) (fun _ _ _ h => h) (Or.inl ⟨by rfl, ?_⟩) ?_ ?_
             rotate_left; · (intro w'; go_simp; with_reducible rfl)
             rotate_left; · (simp only [Act.put, List.setIfInBounds_toArray, List.set_cons_zero, List.set_cons_succ]; rfl)
             refine one_ (i := 3) (N := some 72) #[true,true,true,true,false,false,false,false] rfl rfl (one_of HT_.out (by kernel_rfl)) (by decide) (fun K hK => ?_)
             refine goesP Try.func66 (by kernel_rfl) rfl #[.pointer (some ⟨g, 0, none⟩)] (by rfl) rfl rfl (by simp only [List.map_toArray, List.map_cons, List.map_nil]; rfl) ?_
             refine (term_calls (w0 := w0) (T := T) (s := s) (n := m + 1) hP3.out.drew (Bel.drew hB3.out) hT).mono ?_
             rw [← hr.out]
             rintro e w4 ⟨rfl, hF4⟩
             refine .inr ⟨_, rfl, ?_⟩
             refine ⟨rfl, ?_⟩
             rw [hE4.out]
             exact ⟨rfl, hF3.out.drew.trans hF4⟩
           | ok r =>
             obtain ⟨c, j⟩ := r
             have hE4 := Aside0.mk (show literalP T s n = .ok (⟨4, Term.z, noStr, [a, c]⟩, j) by rw [hE3.out]; unfold pairP; rw [← hr])
             replace hr := Aside0.mk hr
             refine start_ (n := 8) (S := fun w' => w'.cell? ⟨w.heap.size + 1, 5, none⟩ = some v3) (ds := [7]) #[false,false,false,false,false,false,false,false] rfl rfl rfl c5 (fun hS_ => ?_)
             refine with_tabW rLit17.tab rLit17.bits (fun HT_ HW_ => ?_)
             refine pure_ (i := 0) (N := some 69) (v := ?_) (a' := ?_) #[true,false,false,false,false,false,false,false] rfl rfl (any_of HT_.out (by kernel_rfl)) (fun _ _ _ h => h) (Or.inl ⟨by rfl, ?_⟩) ?_ ?_
             rotate_left; · (intro w'; go_simp; with_reducible rfl)
             rotate_left; · (simp only [Act.put, List.setIfInBounds_toArray, List.set_cons_zero, List.set_cons_succ]; rfl)
             refine take_ (i := 1) (N := some 70) (v := ?_) (a' := ?_) #[true,true,false,false,false,false,false,false] rfl rfl (take_ofW HT_.out HW_.out (by kernel_rfl)) (fun _ _ _ h => h) (Or.inl ⟨by rfl, ?_⟩) hS_ ?_ ?_
             rotate_left; · (rintro w' s0; go_simp; with_reducible rfl)
             rotate_left; · (simp only [Act.put, List.setIfInBounds_toArray, List.set_cons_zero, List.set_cons_succ]; rfl)
             refine pure_ (i := 2) (N := some 71) (v := ?_) (a' := ?_) #[true,true,true,false,false,false,false,false] rfl rfl (any_of HT_.out (by kernel_rfl)) (fun _ _ _ h => h) (Or.inl ⟨by rfl, ?_⟩) ?_ ?_
             rotate_left; · (intro w'; go_simp; with_reducible rfl)
             rotate_left; · (simp only [Act.put, List.setIfInBounds_toArray, List.set_cons_zero, List.set_cons_succ]; rfl)
             refine one_ (i := 3) (N := some 72) #[true,true,true,true,false,false,false,false] rfl rfl (one_of HT_.out (by kernel_rfl)) (by decide) (fun K hK => ?_)
             refine goesP Try.func66 (by kernel_rfl) rfl #[.pointer (some ⟨g, 0, none⟩)] (by rfl) rfl rfl (by simp only [List.map_toArray, List.map_cons, List.map_nil]; rfl) ?_
             refine (term_calls (w0 := w0) (T := T) (s := s) (n := m + 1) hP3.out.drew (Bel.drew hB3.out) hT).mono ?_
             rw [← hr.out]
             rintro e w4 ⟨⟨v1, rfl, rfl⟩, hP4, hF4⟩
             refine .inl ⟨_, rfl, ?_⟩
             refine hK.out _ _ (hF4.cell (p := ⟨w.heap.size + 1, 5, none⟩) hS_ (by simp; omega)) (fun hS_ => ?_)
             clear hK K
             refine norm_ (a' := ?_) ?_ ?_
             rotate_left; · (show Act.put _ (some 72) _ = _; simp only [Act.put, List.setIfInBounds_toArray, List.set_cons_zero, List.set_cons_succ]; rfl)
             refine one_ (i := 4) (N := some 73) #[true,true,true,true,true,false,false,false] rfl rfl (one_of HT_.out (by kernel_rfl)) (by decide) (fun K hK => ?_)
             refine value_ (w1 := ?_) (v := ?_) (by rfl) rfl ?_ ?_
             rotate_left 2; · (go_simp; constructor; rfl; rfl)
             refine hK.out _ _ (cell_alloc hS_ _) (fun hS_ => ?_)
             clear hK K
             refine norm_ (a' := ?_) ?_ ?_
             rotate_left; · (show Act.put _ (some 73) _ = _; simp only [Act.put, List.setIfInBounds_toArray, List.set_cons_zero, List.set_cons_succ]; rfl)
             refine one_ (i := 5) (N := some 74) #[true,true,true,true,true,true,false,false] rfl rfl (one_of HT_.out (by kernel_rfl)) (by decide) (fun K hK => ?_)
             refine Kd.R_append_step kTerm (w0 := w4) (w.heap.size + 2) (by rfl) (.tmp 70) (.tmp 73) 26 25 (.agg #[.string ⟨#[]⟩, .string ⟨#[]⟩, .int .i64 0]) 40 (by rfl) Try.underlying26 info_term (by rfl) (by decide) (by omega) v3 [a] c [.string c.var, .string c.val.sym, .int .i64 c.val.num] (fun q => w.heap.size + 2 ≤ q) (fun _ => False) (by rfl) (by rfl) (kTerm_mkM _ _ _ c) (fun _ hk => hk.elim) (fun _ hk => Nat.le_trans (Nat.le_trans hz3 hF4.size) hk) (hF4.R (Kd.R_drew hR3.out) (fun q hq e => by have : q = g := e; omega)) (Below.refl _ _) (Nat.le_trans hz3 hF4.size) (by simp) ?_
             intro v5 w5 hR5 hB5 hg5 hat5
             obtain ⟨gg, cap, rfl, hgg⟩ := Kd.R_form hR5 (by simp)
             have bk5 : ∀ x o, w3.heap[x]? = some o → x ≠ g → x < w.heap.size + 2 → w5.heap[x]? = some o := fun x o ho hx hxB => (hg5.block x (Nat.lt_of_lt_of_le (blk_lt ho) hF4.size) (fun e => absurd (hR3.out.1 x e.symm) (Nat.not_le.mpr hxB))).trans (hF4.blk (blk_drew ho) hx)
             have hL5 := Aside0.mk (bk5 _ _ hL3.out (by omega) (by omega))
             have hD5 := Aside0.mk (bk5 _ _ hD3.out (by omega) (by omega))
             have hg5g : w5.heap[g]? = w4.heap[g]? := hg5.block g hP4.lt (fun e => absurd (hR3.out.1 g e.symm) (by omega))
             have hP5 : Aside0 (PAt w0 T s w5 g _) := ⟨by obtain ⟨A, c, hx, rr⟩ := hP4; exact ⟨A, c, hg5g.trans hx, rr⟩⟩
             have hF5 := Aside0.mk ((hF3.out.drew.trans hF4).step (Fr.of_grown hg5 (S := fun q => w.heap.size + 2 ≤ q) (fun q e => Or.inl (hR3.out.1 q e))) (fun q hq => Or.inr (by omega)))
             have hz5 : w4.heap.size ≤ w5.heap.size := hg5.size
             have hR5 := Aside0.mk hR5
             clear bk5 hg5g hg5 hB5 hat5 hgg
             refine hK.out _ _ ((blk_cell hL5.out 5).trans rfl) (fun hS_ => ?_)
             clear hK K
             refine norm_ (a' := ?_) ?_ ?_
             rotate_left; · (show Act.put _ (some 74) _ = _; simp only [Act.put, List.setIfInBounds_toArray, List.set_cons_zero, List.set_cons_succ]; rfl)
             refine pure_ (i := 6) (N := some 75) (v := ?_) (a' := ?_) #[true,true,true,true,true,true,true,false] rfl rfl (any_of HT_.out (by kernel_rfl)) (fun _ _ _ h => h) (Or.inl ⟨by rfl, ?_⟩) ?_ ?_
             rotate_left; · (intro w'; go_simp; with_reducible rfl)
             rotate_left; · (simp only [Act.put, List.setIfInBounds_toArray, List.set_cons_zero, List.set_cons_succ]; rfl)
             refine last_ (i := 7) (N := none) #[true,true,true,true,true,true,true,true] rfl rfl (one_of HT_.out (by kernel_rfl)) (by decide) (fun K hK => ?_)
             have e5 : w5.cell? ⟨w.heap.size + 1, 5, none⟩ = some v3 := (blk_cell hL5.out 5).trans rfl
             have f5 : w5.frozen? ⟨w.heap.size + 1, 5, none⟩ = false := blk_frozen hL5.out 5
             refine skip_ (w1 := ?_) (by rfl) rfl ?_ ?_
             rotate_left; · (go_simp; rfl)
             refine hK.out _ _ ?_
             clear hK K
             refine wpAnyLast_done (by kernel_rfl) ?_ _
             have hS5 := LitSt.app hB0.out hgw hg0 hP5.out hF5.out hL5.out hD5.out hR5.out (Nat.le_trans (Nat.le_trans hz3 hF4.size) hz5)
             refine then_world (fun w' => LitSt w0 T s g w j 4 _ [a, c] w') hS5 (fun w3 hS3 => ?_)
             replace hS3 := Aside0.mk hS3
             have hz9 := blk_lt hS3.out.d
             have e0 : w3.cell? ⟨w.heap.size + 1, 0, none⟩ = some (.int .u8 (⟨4, Term.z, noStr, [a, c]⟩ : Lit).kind) := (blk_cell hS3.out.l 0).trans rfl
             have e1 : w3.cell? ⟨w.heap.size + 1, 1, none⟩ = some (.string (⟨4, Term.z, noStr, [a, c]⟩ : Lit).who.var) := (blk_cell hS3.out.l 1).trans rfl
             have e2 : w3.cell? ⟨w.heap.size + 1, 2, none⟩ = some (.string (⟨4, Term.z, noStr, [a, c]⟩ : Lit).who.val.sym) := (blk_cell hS3.out.l 2).trans rfl
             have e3 : w3.cell? ⟨w.heap.size + 1, 3, none⟩ = some (.int .i64 (⟨4, Term.z, noStr, [a, c]⟩ : Lit).who.val.num) := (blk_cell hS3.out.l 3).trans rfl
             have e4 : w3.cell? ⟨w.heap.size + 1, 4, none⟩ = some (.string (⟨4, Term.z, noStr, [a, c]⟩ : Lit).pred) := (blk_cell hS3.out.l 4).trans rfl
             have e5 : w3.cell? ⟨w.heap.size + 1, 5, none⟩ = some (.slice (some ⟨gg, 0, none⟩) 2 cap) := (blk_cell hS3.out.l 5).trans rfl
             have d0 : w3.cell? ⟨w.heap.size, 0, none⟩ = some (.int .u8 0) := (blk_cell hS3.out.d 0).trans rfl
             have d1 : w3.cell? ⟨w.heap.size, 1, none⟩ = some (.string ⟨#[]⟩) := (blk_cell hS3.out.d 1).trans rfl
             have d2 : w3.cell? ⟨w.heap.size, 2, none⟩ = some (.string ⟨#[]⟩) := (blk_cell hS3.out.d 2).trans rfl
             have d3 : w3.cell? ⟨w.heap.size, 3, none⟩ = some (.int .i64 0) := (blk_cell hS3.out.d 3).trans rfl
             have d4 : w3.cell? ⟨w.heap.size, 4, none⟩ = some (.string ⟨#[]⟩) := (blk_cell hS3.out.d 4).trans rfl
             have d5 : w3.cell? ⟨w.heap.size, 5, none⟩ = some (.slice none 0 0) := (blk_cell hS3.out.d 5).trans rfl
             have f0 := blk_frozen hS3.out.d 0
             have f1 := blk_frozen hS3.out.d 1
             have f2 := blk_frozen hS3.out.d 2
             have f3 := blk_frozen hS3.out.d 3
             have f4 := blk_frozen hS3.out.d 4
             have f5 := blk_frozen hS3.out.d 5
             go_wp2
             exact lit_end (l := ⟨4, Term.z, noStr, [a, c]⟩) (av := .slice (some ⟨gg, 0, none⟩) 2 cap) rfl rfl hS3.out.d (Kd.R_lower hS3.out.r (by omega)) hS3.out.p hS3.out.f hgw hE4.out
 · have hl := isT_lt hn
   have hE := Aside0.mk (show literalP T s n = saidL 2 (saidP T s (n + 1)) by unfold literalP; rw [hn]; rfl)
   replace hn := Aside0.mk hn
   go_enter Try.func36, Try.ntmps36
   go_wp2_with fail
   refine (is_calls 0 n nots (by omega) hS.out.p hS.out.b hT (by omega)).mono ?_; rintro e w1 ⟨rfl, hd⟩
   rw [hn.out]
   have hS1 := Aside0.mk (hS.out.drawn hd)
   obtain ⟨A1, c1, p0, p1, p2, q2, hm, _, _⟩ := hS1.out.p.cells
   have e0 : w1.cell? ⟨w.heap.size + 1, 0, none⟩ = some (.int .u8 1) := (blk_cell hS1.out.l 0).trans rfl
   have f0 := blk_frozen hS1.out.l 0
   clear hS hd
   go_wp2_with fail
   have hS2 := Aside0.mk ((hS1.out.to hgw (n + 1) ((n : Int) + 1) (by omega) (by omega)).kind hgw hBz 2)
   refine (said_calls (b := w.heap.size + 1) (k := 2) (pred0 := noStr) (rest := []) (ty := 28) hT (by omega) hS2.out.p hS2.out.b (Or.inl (by omega)) hS2.out.l).mono ?_
   intro e w9 hp
   obtain ⟨r, hr⟩ : ∃ r, r = saidP T s (n + 1) := ⟨_, rfl⟩
   rw [← hr] at hp
   cases r with
   | error p =>
     obtain ⟨rfl, hF9⟩ := hp
     have hE2 := Aside0.mk (show literalP T s n = .error p by rw [hE.out, ← hr]; rfl)
     have hF := hS2.out.f
     clear hr
     go_wp2
     refine ⟨rfl, ?_⟩
     rw [hE2.out]
     exact ⟨rfl, hF.step hF9 (fun q hq => by rcases hq with rfl | rfl; exact Or.inl rfl; exact Or.inr (by omega))⟩
   | ok r =>
     obtain ⟨⟨who, x, ts⟩, j⟩ := r
     obtain ⟨rfl, hP9, ⟨v9, hL9, hR9⟩, hF9⟩ := hp
     have hE2 := Aside0.mk (show literalP T s n = .ok (⟨2, who, x, ts⟩, j) by rw [hE.out, ← hr]; rfl)
     obtain ⟨A9, c9, rfl⟩ := Kd.R_slice hR9
     have hD9 := hF9.blk hS2.out.d (fun q => by rcases q with q | q <;> omega)
     have hzz := hS2.out.z
     replace hR9 := Kd.R_mono (ok' := fun q => w.heap.size + 2 ≤ q) (Kd.R_lower hR9 (by omega : w.heap.size ≤ _)) (fun q hq => by omega)
     replace hF9 := hS2.out.f.step hF9 (fun q hq => by rcases hq with rfl | rfl; exact Or.inl rfl; exact Or.inr (by omega))
     clear hr hS1 hS2 p0 p1 p2 q2 e0 f0
     have e0 : w9.cell? ⟨w.heap.size + 1, 0, none⟩ = some (.int .u8 (⟨2, who, x, ts⟩ : Lit).kind) := (blk_cell hL9 0).trans rfl
     have e1 : w9.cell? ⟨w.heap.size + 1, 1, none⟩ = some (.string (⟨2, who, x, ts⟩ : Lit).who.var) := (blk_cell hL9 1).trans rfl
     have e2 : w9.cell? ⟨w.heap.size + 1, 2, none⟩ = some (.string (⟨2, who, x, ts⟩ : Lit).who.val.sym) := (blk_cell hL9 2).trans rfl
     have e3 : w9.cell? ⟨w.heap.size + 1, 3, none⟩ = some (.int .i64 (⟨2, who, x, ts⟩ : Lit).who.val.num) := (blk_cell hL9 3).trans rfl
     have e4 : w9.cell? ⟨w.heap.size + 1, 4, none⟩ = some (.string (⟨2, who, x, ts⟩ : Lit).pred) := (blk_cell hL9 4).trans rfl
     have e5 : w9.cell? ⟨w.heap.size + 1, 5, none⟩ = some (.slice A9 (⟨2, who, x, ts⟩ : Lit).args.length c9) := (blk_cell hL9 5).trans rfl
     have d0 : w9.cell? ⟨w.heap.size, 0, none⟩ = some (.int .u8 0) := (blk_cell hD9 0).trans rfl
     have d1 : w9.cell? ⟨w.heap.size, 1, none⟩ = some (.string ⟨#[]⟩) := (blk_cell hD9 1).trans rfl
     have d2 : w9.cell? ⟨w.heap.size, 2, none⟩ = some (.string ⟨#[]⟩) := (blk_cell hD9 2).trans rfl
     have d3 : w9.cell? ⟨w.heap.size, 3, none⟩ = some (.int .i64 0) := (blk_cell hD9 3).trans rfl
     have d4 : w9.cell? ⟨w.heap.size, 4, none⟩ = some (.string ⟨#[]⟩) := (blk_cell hD9 4).trans rfl
     have d5 : w9.cell? ⟨w.heap.size, 5, none⟩ = some (.slice none 0 0) := (blk_cell hD9 5).trans rfl
     have f0 := blk_frozen hD9 0
     have f1 := blk_frozen hD9 1
     have f2 := blk_frozen hD9 2
     have f3 := blk_frozen hD9 3
     have f4 := blk_frozen hD9 4
     have f5 := blk_frozen hD9 5
     have hz9 := blk_lt hD9
     have hL9 := Aside0.mk hL9
     have hD9 := Aside0.mk hD9
     have hR9 := Aside0.mk hR9
     have hP9 := Aside0.mk hP9
     have hF9 := Aside0.mk hF9
     go_wp2
     exact lit_end (l := ⟨2, who, x, ts⟩) (av := .slice A9 ts.length c9) rfl rfl hD9.out hR9.out hP9.out hF9.out hgw hE2.out
end Go.Proofs.Ytdhocmakbapfpaa.M
end
section
namespace Go.Proofs.Ytdhocmakbapfpaa.M
open Go.RowKit Go.Proofs.YtdhocmakbapfpaaW.PrintWords Go.Proofs.YtdhocmakbapfpaaW.PrintMore Go.Proofs.YtdhocmakbapfpaaW.PrintLast
attribute [local go_sem] max2_int min2_int max_two min_two
theorem kLit_mkM {w : World} {base : Nat} {ok : Nat → Prop} {l : Lit} {av : Value} (h : Kd.R kTerm 25 w base ok av l.args) : kLit.M w base ok l [.int .u8 l.kind, .string l.who.var, .string l.who.val.sym, .int .i64 l.who.val.num, .string l.pred, av] :=
 ⟨[.int .u8 l.kind], [.string l.who.var, .string l.who.val.sym, .int .i64 l.who.val.num, .string l.pred, av], rfl, rfl, ⟨[.string l.who.var, .string l.who.val.sym, .int .i64 l.who.val.num], [.string l.pred, av], rfl, kTerm_mkM _ _ _ _, ⟨[.string l.pred], [av], rfl, rfl, ⟨av, rfl, h⟩⟩⟩⟩
theorem info_lit : (Try.prog.info? 28).map (fun i => (i.zero, i.size, i.bytes)) = some (some (.agg #[.int .u8 0, .string ⟨#[]⟩, .string ⟨#[]⟩, .int .i64 0, .string ⟨#[]⟩, .slice none 0 0]), 6, 88) := by kernel_rfl
def BodyI (g b bp B : Nat) (k : Int) (who : Term) (pred : ByteArray) (av : Value) (acc : List Lit) (w : World) : Prop :=
 ∃ v, w.heap[b]? = some (.cells (litC k who pred av [v]) 31 (0, 0)) ∧ w.heap[bp]? = some (.cells #[.pointer (some ⟨g, 0, none⟩)] 63 (0, 0)) ∧ Kd.R kLit 28 w B (fun q => B ≤ q) v acc ∧ B ≤ w.heap.size
theorem BodyI.fr {g b bp B : Nat} {k : Int} {who : Term} {pred : ByteArray} {av : Value} {acc : List Lit} {w w' : World} {S : Nat → Prop} (h : BodyI g b bp B k who pred av acc w) (f : Fr S w w') (h1 : ¬ S b) (h3 : ¬ S bp) (h4 : ∀ q, B ≤ q → ¬ S q) : BodyI g b bp B k who pred av acc w' := by
 obtain ⟨v, hL, hp, hR, hB⟩ := h
 exact ⟨v, f.blk hL h1, f.blk hp h3, f.R hR h4, Nat.le_trans hB f.size⟩
theorem litC_rest {k : Int} {who : Term} {pred : ByteArray} {v x : Value} {ty : TypeId} {w : World} {b : Nat} (u : Value) (h : w.heap[b]? = some (.cells (litC k who pred v [x]) ty (0, 0))) :
 (w.setCell ⟨b, 6, none⟩ u).heap[b]? = some (.cells (litC k who pred v [u]) ty (0, 0)) := by
 have h2 := blk_set h 6 u
 rwa [show (litC k who pred v [x]).setIfInBounds 6 u = litC k who pred v [u] by simp [litC]] at h2
def rBody.T : Bool × List (List Nat × List Nat) := (true, [([], []), ([0], [0]), ([], []), ([2], [2]), ([3], [3]), ([1, 4, 3], [1, 4]), ([0, 1, 2, 3, 4, 5], []), ([6, 5, 5, 0, 1, 2, 3, 4, 5], [5, 6])])
def rBody.B : List Nat := [0, 1, 0, 4, 12, 31, 63, 127]
theorem rBody.tab : rtab .any (opsOf Try.f35 0) = rBody.T := by kernel_rfl
theorem rBody.bits : waitsOk rBody.T.2 rBody.B = true := by kernel_rfl
set_option maxHeartbeats 8000000 in
set_option maxRecDepth 100000 in
theorem body1_calls {w0 : World} {T : List Tok} {s : ByteArray} {g b bp B : Nat} {k : Int} {who : Term} {pred : ByteArray} {av : Value} (hT : TokOk s T) (hgb : g ≠ b) (hpg : bp ≠ g) (hpb : bp ≠ b) (hgB : g < B) (hbB : b < B) (hpB : bp < B)
 (acc : List Lit) (n : Nat) (w : World) (hacc : acc.length ≤ 4096) (h : PAt w0 T s w g n) (hB : Bel w0 w) (hI : BodyI g b bp B k who pred av acc w) :
 Calls Try.prog 35 #[.pointer (some ⟨b, 0, none⟩), .pointer (some ⟨bp, 0, none⟩)] w (OPost w0 T s g (atomS g b B) w (fun a w' => BodyI g b bp B k who pred av (acc ++ [a]) w') (literalP T s n)) := by
 obtain ⟨v, hL, hp, hR, hBw⟩ := hI
 have c6 : w.cell? ⟨b, 6, none⟩ = some v := (blk_cell hL 6).trans rfl
 have cp : w.cell? ⟨bp, 0, none⟩ = some (.pointer (some ⟨g, 0, none⟩)) := (blk_cell hp 0).trans rfl
 have h' := Aside0.mk h
 have hB' := Aside0.mk hB
 have hL := Aside0.mk hL
 have hp := Aside0.mk hp
 have hR := Aside0.mk hR
 clear h hB
 obtain ⟨r, hr⟩ : ∃ r, r = literalP T s n := ⟨_, rfl⟩
 cases r with
 | error p =>
   replace hr := Aside0.mk hr
   go_enter Try.func35, Try.ntmps35
   go_wp2_with fail
   refine start_ (n := 8) (S := fun w' => w'.cell? ⟨b, 6, none⟩ = some v ∧ w'.cell? ⟨bp, 0, none⟩ = some (.pointer (some ⟨g, 0, none⟩))) (ds := [7]) #[false,false,false,false,false,false,false,false] rfl rfl rfl ⟨c6, cp⟩ (fun hS_ => ?_)
   refine with_tabW rBody.tab rBody.bits (fun HT_ HW_ => ?_)
   refine pure_ (i := 0) (N := some 2) (v := ?_) (a' := ?_) #[true,false,false,false,false,false,false,false] rfl rfl (any_of HT_.out (by kernel_rfl)) (fun _ _ _ h => h) (Or.inl ⟨by rfl, ?_⟩) ?_ ?_
   rotate_left; · (intro w'; go_simp; with_reducible rfl)
   rotate_left; · (simp only [Act.put, List.setIfInBounds_toArray, List.set_cons_zero, List.set_cons_succ]; rfl)
   refine take_ (i := 1) (N := some 3) (v := ?_) (a' := ?_) #[true,true,false,false,false,false,false,false] rfl rfl (take_ofW HT_.out HW_.out (by kernel_rfl)) (fun _ _ _ h => h) (Or.inl ⟨by rfl, ?_⟩) hS_ ?_ ?_
   rotate_left; · (rintro w' ⟨s0, s1⟩; go_simp; with_reducible rfl)
   rotate_left; · (simp only [Act.put, List.setIfInBounds_toArray, List.set_cons_zero, List.set_cons_succ]; rfl)
   refine take_ (i := 2) (N := some 4) (v := ?_) (a' := ?_) #[true,true,true,false,false,false,false,false] rfl rfl (take_ofW HT_.out HW_.out (by kernel_rfl)) (fun _ _ _ h => h) (Or.inl ⟨by rfl, ?_⟩) hS_ ?_ ?_
   rotate_left; · (rintro w' ⟨s0, s1⟩; go_simp; with_reducible rfl)
   rotate_left; · (simp only [Act.put, List.setIfInBounds_toArray, List.set_cons_zero, List.set_cons_succ]; rfl)
   refine one_ (i := 3) (N := some 5) #[true,true,true,true,false,false,false,false] rfl rfl (one_of HT_.out (by kernel_rfl)) (by decide) (fun K hK => ?_)
   refine goesP Try.func36 (by kernel_rfl) rfl #[.pointer (some ⟨g, 0, none⟩)] (by rfl) rfl rfl (by simp only [List.map_toArray, List.map_cons, List.map_nil]; rfl) ?_
   refine (literal_calls (w0 := w0) (T := T) (s := s) (n := n) hT h'.out.drew (Bel.drew hB'.out)).mono ?_
   rw [← hr.out]
   rintro e w1 ⟨rfl, hF1⟩
   refine .inr ⟨_, rfl, ?_⟩
   refine ⟨rfl, ?_⟩
   rw [← hr.out]
   exact ⟨rfl, (Fr.refl _ w).drew.trans (hF1.mono (fun q hq => Or.inl hq))⟩
 | ok r =>
   obtain ⟨a, m⟩ := r
   replace hr := Aside0.mk hr
   have bk := Aside0.mk (show ∀ w1 w2 : World, Fr (fun q => q = g) w.drew w1 → w1.grownBy w2 v.ownBlock → ∀ x o, w.heap[x]? = some o → x ≠ g → x < B → w2.heap[x]? = some o from
    fun w1 w2 hF hg x o ho hx hxB => (hg.block x (Nat.lt_of_lt_of_le (blk_lt ho) hF.size) (fun e => absurd (hR.out.1 x e.symm) (Nat.not_le.mpr hxB))).trans (hF.blk ho hx))
   go_enter Try.func35, Try.ntmps35
   go_wp2_with fail
   refine start_ (n := 8) (S := fun w' => w'.cell? ⟨b, 6, none⟩ = some v ∧ w'.cell? ⟨bp, 0, none⟩ = some (.pointer (some ⟨g, 0, none⟩))) (ds := [7]) #[false,false,false,false,false,false,false,false] rfl rfl rfl ⟨c6, cp⟩ (fun hS_ => ?_)
   refine with_tabW rBody.tab rBody.bits (fun HT_ HW_ => ?_)
   refine pure_ (i := 0) (N := some 2) (v := ?_) (a' := ?_) #[true,false,false,false,false,false,false,false] rfl rfl (any_of HT_.out (by kernel_rfl)) (fun _ _ _ h => h) (Or.inl ⟨by rfl, ?_⟩) ?_ ?_
   rotate_left; · (intro w'; go_simp; with_reducible rfl)
   rotate_left; · (simp only [Act.put, List.setIfInBounds_toArray, List.set_cons_zero, List.set_cons_succ]; rfl)
   refine take_ (i := 1) (N := some 3) (v := ?_) (a' := ?_) #[true,true,false,false,false,false,false,false] rfl rfl (take_ofW HT_.out HW_.out (by kernel_rfl)) (fun _ _ _ h => h) (Or.inl ⟨by rfl, ?_⟩) hS_ ?_ ?_
   rotate_left; · (rintro w' ⟨s0, s1⟩; go_simp; with_reducible rfl)
   rotate_left; · (simp only [Act.put, List.setIfInBounds_toArray, List.set_cons_zero, List.set_cons_succ]; rfl)
   refine take_ (i := 2) (N := some 4) (v := ?_) (a' := ?_) #[true,true,true,false,false,false,false,false] rfl rfl (take_ofW HT_.out HW_.out (by kernel_rfl)) (fun _ _ _ h => h) (Or.inl ⟨by rfl, ?_⟩) hS_ ?_ ?_
   rotate_left; · (rintro w' ⟨s0, s1⟩; go_simp; with_reducible rfl)
   rotate_left; · (simp only [Act.put, List.setIfInBounds_toArray, List.set_cons_zero, List.set_cons_succ]; rfl)
   refine one_ (i := 3) (N := some 5) #[true,true,true,true,false,false,false,false] rfl rfl (one_of HT_.out (by kernel_rfl)) (by decide) (fun K hK => ?_)
   refine goesP Try.func36 (by kernel_rfl) rfl #[.pointer (some ⟨g, 0, none⟩)] (by rfl) rfl rfl (by simp only [List.map_toArray, List.map_cons, List.map_nil]; rfl) ?_
   refine (literal_calls (w0 := w0) (T := T) (s := s) (n := n) hT h'.out.drew (Bel.drew hB'.out)).mono ?_
   rw [← hr.out]
   rintro e w1 ⟨⟨v1, rfl, av1, rfl, hR1⟩, hP1, hF1⟩
   refine .inl ⟨_, rfl, ?_⟩
   refine hK.out _ _ ⟨hF1.cell (p := ⟨b, 6, none⟩) c6 (Ne.symm hgb), hF1.cell (p := ⟨bp, 0, none⟩) cp hpg⟩ (fun hS_ => ?_)
   clear hK K
   refine norm_ (a' := ?_) ?_ ?_
   rotate_left; · (show Act.put _ (some 5) _ = _; simp only [Act.put, List.setIfInBounds_toArray, List.set_cons_zero, List.set_cons_succ]; rfl)
   refine one_ (i := 4) (N := some 6) #[true,true,true,true,true,false,false,false] rfl rfl (one_of HT_.out (by kernel_rfl)) (by decide) (fun K hK => ?_)
   refine value_ (w1 := ?_) (v := ?_) (by rfl) rfl ?_ ?_
   rotate_left 2; · (go_simp; constructor; rfl; rfl)
   refine hK.out _ _ ⟨cell_alloc hS_.1 _, cell_alloc hS_.2 _⟩ (fun hS_ => ?_)
   clear hK K
   refine norm_ (a' := ?_) ?_ ?_
   rotate_left; · (show Act.put _ (some 6) _ = _; simp only [Act.put, List.setIfInBounds_toArray, List.set_cons_zero, List.set_cons_succ]; rfl)
   refine one_ (i := 5) (N := some 7) #[true,true,true,true,true,true,false,false] rfl rfl (one_of HT_.out (by kernel_rfl)) (by decide) (fun K hK => ?_)
   refine Kd.R_append_step kLit (w0 := w1) B (by rfl) (.tmp 3) (.tmp 6) 29 28 (.agg #[.int .u8 0, .string ⟨#[]⟩, .string ⟨#[]⟩, .int .i64 0, .string ⟨#[]⟩, .slice none 0 0]) 88 (by rfl) Try.underlying29 info_lit (by rfl) (by decide) (by omega) v acc a [.int .u8 a.kind, .string a.who.var, .string a.who.val.sym, .int .i64 a.who.val.num, .string a.pred, av1] (fun q => B ≤ q) (fun q => w.heap.size ≤ q) (by rfl) (by rfl) (kLit_mkM (Kd.R_lower hR1 hBw)) (fun k hk => ⟨Nat.le_trans hBw hk, fun e => by have := (Kd.R_bound hR.out).1 k e.symm; omega⟩) (fun _ hk => Nat.le_trans (Nat.le_trans hBw hF1.size) hk) (hF1.R (Kd.R_drew hR.out) (fun q hq e => by subst e; exact absurd hgB (Nat.not_lt.mpr hq))) (Below.refl _ _) (Nat.le_trans hBw hF1.size) (by omega) ?_
   intro v2 w2 hR2 hB2 hg2 hat2
   obtain ⟨gg, cap, rfl, hgg⟩ := Kd.R_form hR2 (by simp)
   have hb2 := Aside0.mk (bk.out w1 w2 hF1 hg2 b _ hL.out (Ne.symm hgb) hbB)
   have hp2 := Aside0.mk (bk.out w1 w2 hF1 hg2 bp _ hp.out hpg hpB)
   refine hK.out _ _ ⟨(blk_cell hb2.out 6).trans rfl, (blk_cell hp2.out 0).trans rfl⟩ (fun hS_ => ?_)
   clear hK K
   refine norm_ (a' := ?_) ?_ ?_
   rotate_left; · (show Act.put _ (some 7) _ = _; simp only [Act.put, List.setIfInBounds_toArray, List.set_cons_zero, List.set_cons_succ]; rfl)
   refine pure_ (i := 6) (N := some 8) (v := ?_) (a' := ?_) #[true,true,true,true,true,true,true,false] rfl rfl (any_of HT_.out (by kernel_rfl)) (fun _ _ _ h => h) (Or.inl ⟨by rfl, ?_⟩) ?_ ?_
   rotate_left; · (intro w'; go_simp; with_reducible rfl)
   rotate_left; · (simp only [Act.put, List.setIfInBounds_toArray, List.set_cons_zero, List.set_cons_succ]; rfl)
   refine last_ (i := 7) (N := none) #[true,true,true,true,true,true,true,true] rfl rfl (one_of HT_.out (by kernel_rfl)) (by decide) (fun K hK => ?_)
   have e6 : w2.cell? ⟨b, 6, none⟩ = some v := (blk_cell hb2.out 6).trans rfl
   have f6 : w2.frozen? ⟨b, 6, none⟩ = false := blk_frozen hb2.out 6
   refine skip_ (w1 := ?_) (by rfl) rfl ?_ ?_
   rotate_left; · (go_simp; rfl)
   refine hK.out _ _ ?_
   clear hK K
   refine wpAnyLast_done (by kernel_rfl) ?_ _
   go_wp2
   go_end0
   rw [← hr.out]
   simp only [List.length_append, List.length_cons, List.length_nil, Nat.zero_add] at hR2
   have hg1 : w2.heap[g]? = w1.heap[g]? := hg2.block g hP1.lt (fun e => absurd (hR.out.1 g e.symm) (Nat.not_le.mpr hgB))
   refine ⟨rfl, ?_, ⟨_, litC_rest _ hb2.out, blk_far hp2.out hpb, Kd.R_far (p := ⟨b, 6, none⟩) hR2 (fun q hq e => by have : q = b := e; omega) _, ?_⟩, ?_⟩
   · exact PAt.far (by obtain ⟨A, c, hx, r⟩ := hP1; exact ⟨A, c, hg1.trans hx, r⟩) hgb
   · have := hF1.size; have := hg2.size; simp at *; omega
   · have hA : Fr (atomS g b B) w w1 := (Fr.refl _ w).drew.trans (hF1.mono (fun q hq => Or.inl hq))
     have hA2 : Fr (atomS g b B) w w2 := hA.trans (Fr.of_grown hg2 (fun q e => Or.inl (Or.inr (Or.inr (hR.out.1 q e)))))
     exact hA2.set _ (Or.inl (Or.inr (Or.inl rfl))) _
end Go.Proofs.Ytdhocmakbapfpaa.M
end
