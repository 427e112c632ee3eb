import Derived.Lib.LaidTab
import Derived.Lib.ItoaMem
import Derived.Test.YtfhpecgknmfnnaaDoorProg
import Derived.Calls
import Derived.Below
import Derived.Deep.Draws
import Derived.Deep.AppendLies
import Derived.Maps.AppendAt
import Derived.OwnWalk
import Derived.Laws.BytesArg
import Derived.Laws.MakeOwn
import Derived.Laws.OwnMore
import Derived.Deep.OwnRows
import Derived.Tactics
import Derived.Lib.ConvBytes
import Derived.Laws.Slices
import Derived.WalkKit
import Derived.KernelRfl
import Derived.RowKit3
import Derived.Deep.LoopGhost
import Derived.Deep.QuietTactic
import Derived.BigQuiet
import Derived.WideLaws
import Derived.Deep.DeepCutAuto
import Derived.Deep.CutBlock
import Derived.Deep.RegionHeld3
import Derived.Laws.Rows
import Derived.Lib.AppendStr
import Derived.ArgAppend
import Derived.Laws.IdiomCopy
import Derived.OrdersHeld
import Derived.Laws.BitsLemmas
import Derived.RowKit
import Derived.Test.YtfhpecgknmfnnaaDoorC1
import Derived.ScopeJumps
import Derived.WalkMore
import Derived.WalkLawsBesides
import Derived.Defers
import Derived.Recover
set_option linter.unusedVariables false
set_option linter.unusedSimpArgs false
section
namespace Go.R
def laidL : List (Nat × (Option Obj → Prop)) := [(0, fun o => ∀ w : World, w.heap[0]? = o → Lib.TabIs Go.Proofs.Tryd.prog w "internal/strconv.uint64pow10" .u64 Lib.pow10Tab)]
end Go.R
end
section
namespace Go.Proofs.YtfhpecgknmfnnaaDoor.M
structure Tok where
 kind : Int
 lo : Int
 hi : Int
structure Val where
 sym : ByteArray
 num : Int
structure Term where
 var : ByteArray
 val : Val
structure Lit where
 kind : Int
 who : Term
 pred : ByteArray
 args : List Term
structure Clause where
 head : Lit
 body : List Lit
abbrev noStr : ByteArray := ⟨#[]⟩
def Tok.z : Tok := ⟨0, 0, 0⟩
def Val.z : Val := ⟨noStr, 0⟩
def Term.z : Term := ⟨noStr, Val.z⟩
def Lit.z : Lit := ⟨0, Term.z, noStr, []⟩
def Clause.z : Clause := ⟨Lit.z, []⟩
end Go.Proofs.YtfhpecgknmfnnaaDoor.M
end
section
namespace Go.Proofs.YtfhpecgknmfnnaaDoor.M
open Go.RowKit Go.Proofs.YtfhpecgknmfnnaaDoorW.PrintWords Go.Proofs.YtfhpecgknmfnnaaDoorW.PrintMore
def kTok : Kd Tok := Kd.iso (Kd.pair (Kd.int .u8) (Kd.pair (Kd.int .i64) (Kd.int .i64))) (fun x => (x.kind, x.lo, x.hi))
def kVal : Kd Val := Kd.iso (Kd.pair Kd.string (Kd.int .i64)) (fun x => (x.sym, x.num))
def kTerm : Kd Term := Kd.iso (Kd.pair Kd.string kVal) (fun x => (x.var, x.val))
def kLit : Kd Lit := Kd.iso (Kd.pair (Kd.int .u8) (Kd.pair kTerm (Kd.pair Kd.string (Kd.slice 25 kTerm)))) (fun x => (x.kind, x.who, x.pred, x.args))
structure Fr (S : Nat → Prop) (w w' : World) : Prop where
 os : w'.os = w.os
 tape : w'.tape = w.tape
 output : w'.output = w.output
 size : w.heap.size ≤ w'.heap.size
 block : ∀ k, k < w.heap.size → ¬ S k → w'.heap[k]? = w.heap[k]?
namespace Fr
variable {S T : Nat → Prop} {a b c w : World}
theorem refl (S : Nat → Prop) (w : World) : Fr S w w := ⟨rfl, rfl, rfl, Nat.le_refl _, fun _ _ _ => rfl⟩
theorem trans (h : Fr S a b) (k : Fr S b c) : Fr S a c :=
 ⟨k.os.trans h.os, k.tape.trans h.tape, k.output.trans h.output, Nat.le_trans h.size k.size,
   fun i hi hs => (k.block i (Nat.lt_of_lt_of_le hi h.size) hs).trans (h.block i hi hs)⟩
theorem mono (h : Fr S a b) (hs : ∀ k, S k → T k) : Fr T a b := ⟨h.os, h.tape, h.output, h.size, fun k hk ht => h.block k hk (fun q => ht (hs k q))⟩
theorem step (h : Fr S a b) (k : Fr T b c) (hs : ∀ i, T i → S i ∨ a.heap.size ≤ i) : Fr S a c :=
 ⟨k.os.trans h.os, k.tape.trans h.tape, k.output.trans h.output, Nat.le_trans h.size k.size,
   fun i hi hn => (k.block i (Nat.lt_of_lt_of_le hi h.size) (fun q => (hs i q).elim hn (fun z => Nat.not_lt.mpr z hi))).trans (h.block i hi hn)⟩
theorem below {B : Nat} (h : Fr S a b) (hB : B ≤ a.heap.size) (hs : ∀ k, S k → B ≤ k) : Below B a b :=
 ⟨h.os, h.tape, h.output, h.size, fun k hk => h.block k (by omega) (fun q => by have := hs k q; omega)⟩
theorem of_below (h : Below a.heap.size a b) : Fr S a b := ⟨h.os, h.tape, h.output, h.size, fun k hk _ => h.block k hk⟩
theorem of_grown {row : Option Nat} (h : a.grownBy b row) (hs : ∀ k, row = some k → S k ∨ a.heap.size ≤ k) : Fr S a b :=
 ⟨h.os, h.tape, h.output, h.size, fun k hk hn => h.block k hk (fun e => (hs k e.symm).elim hn (fun z => by omega))⟩
theorem alloc (h : Fr S a b) (o : Obj) : Fr S a (b.alloc o) := h.trans (of_below (below_alloc (Below.refl _ _) o))
theorem drew (h : Fr S a b) : Fr S a b.drew := ⟨h.os, h.tape, h.output, h.size, h.block⟩
theorem drewN (h : Fr S a b) (n : Nat) : Fr S a (b.drewN n) := ⟨h.os, h.tape, h.output, h.size, h.block⟩
theorem set (h : Fr S a b) (p : Addr) (hp : S p.block ∨ a.heap.size ≤ p.block) (u : Value) : Fr S a (b.setCell p u) :=
 h.step (T := fun k => k = p.block) ⟨rfl, rfl, rfl, by simp [World.setCell], fun k _ hk => Below.heap_setCell _ _ _ _ hk⟩ (fun i hi => by subst hi; exact hp)
theorem blk (h : Fr S a b) {k : Nat} {o : Obj} (hb : a.heap[k]? = some o) (hs : ¬ S k) : b.heap[k]? = some o := (h.block k (blk_lt hb) hs).trans hb
theorem cell (h : Fr S a b) {p : Addr} {v : Value} (hc : a.cell? p = some v) (hs : ¬ S p.block) : b.cell? p = some v := by
 have hl := World.block_lt_of_cell? a p hc
 have e := h.block p.block hl hs
 unfold World.cell? at hc ⊢
 rw [e]; exact hc
theorem R {α : Type} {d : Kd α} {e base : Nat} {ok : Nat → Prop} {v : Value} {xs : List α} (h : Fr S a b) (hr : d.R e a base ok v xs) (hs : ∀ k, ok k → ¬ S k) : d.R e b base ok v xs :=
 Kd.R_step hr (fun k ho hk => h.block k hk (hs k ho))
end Fr
theorem wp_world {P : Program} {c : Code} {Q : Exit → Act → World → Prop} {a : Act} {w : World} (F : World → Prop) (hF : F w) (h : ∀ w', F w' → c.wp P Q a w') : c.wp P Q a w := h w hF
theorem blk_far {w : World} {b : Nat} {o : Obj} {p : Addr} {u : Value} (h : w.heap[b]? = some o) (hne : b ≠ p.block) : (w.setCell p u).heap[b]? = some o := (Below.heap_setCell w p u b hne).trans h
theorem blk_alloc {w : World} {b : Nat} {o : Obj} (h : w.heap[b]? = some o) (o' : Obj) : (w.alloc o').heap[b]? = some o := (Below.heap_alloc w o' b (blk_lt h)).trans h
theorem blk_drew {w : World} {b : Nat} {o : Obj} (h : w.heap[b]? = some o) : w.drew.heap[b]? = some o := h
theorem blk_drewN {w : World} {b : Nat} {o : Obj} (h : w.heap[b]? = some o) (m : Nat) : (w.drewN m).heap[b]? = some o := h
theorem hmf (fn : Fn) (first cap : Array Value) (w : World) : (Instr.makeFunc fn first cap).run Tryd.prog w = .ok (.func fn first cap) w := rfl
end Go.Proofs.YtfhpecgknmfnnaaDoor.M
end
section
namespace Go.Proofs.YtfhpecgknmfnnaaDoor.M
open Go.RowKit Go.Proofs.YtfhpecgknmfnnaaDoorW.PrintWords Go.Proofs.YtfhpecgknmfnnaaDoorW.PrintMore
attribute [local go_sem] max2_int min2_int max_two min_two
def lowB (c : Int) : Bool := decide (97 ≤ c) && decide (c ≤ 122)
def uppB (c : Int) : Bool := decide (65 ≤ c) && decide (c ≤ 90)
def digB (c : Int) : Bool := !decide (c < 48) && !decide (57 < c)
def pieceB (c : Int) : Bool := lowB c || uppB c || digB c || c == 95
theorem ret_bool {a b : Bool} (h : a = b) : Ending.returned (.bool a) = .returned (.bool b) := by rw [h]
theorem letter_calls (c : Int) (w : World) : Calls Tryd.prog 51 #[.int .u8 c] w fun e w' => e = .returned (.bool (pieceB c)) ∧ w = w' := by
 go_enter Tryd.func51, Tryd.ntmps51
 go_wp2
 all_goals go_ret
 all_goals exact ⟨ret_bool (by rw [Bool.eq_iff_iff]; simp [pieceB, lowB, uppB, digB]; omega), rfl⟩
theorem bytesOf_drop (s : ByteArray) (k : Nat) (h : k < s.size) : (bytesOf s).drop k = bt s k :: (bytesOf s).drop (k + 1) := by
 have hl : k < (bytesOf s).length := by rw [bytesOf_length]; exact h
 rw [List.drop_eq_getElem_cons hl]
 congr 1
 rw [← rd_bytesOf]
 unfold rd
 simp [List.getD_eq_getElem?_getD, List.getElem?_eq_getElem hl]
def nameGo : Bool → List Int → Bool
 | _, [] => true
 | f, c :: t => (lowB c || (!f && (digB c || c == 95))) && nameGo false t
def nameB (s : ByteArray) : Bool := !(s.toList == [110, 111, 116]) && !(s.toList == [115, 97, 121, 115]) && decide (s.size ≤ 16) && nameGo true (bytesOf s) && decide (0 < s.size)
theorem toList_eq (s : ByteArray) : s.toList = s.data.toList := by
 exact ByteArray.toList_eq s
theorem toList_ne (s : ByteArray) : (!s.toList.isEmpty) = decide (0 < s.size) := by
 rw [toList_eq]
 cases s with
 | mk d => cases d with
   | mk l => cases l <;> simp [ByteArray.size] <;> rfl
theorem size_zero_nil {s : ByteArray} (h : s.size = 0) : s = ⟨#[]⟩ := by
 cases s with
 | mk d => simp [ByteArray.size] at h; subst h; rfl
theorem nameGo_step (f : Bool) (c : Int) (t : List Int) : nameGo f (c :: t) = ((lowB c || (!f && (digB c || c == 95))) && nameGo false t) := rfl
set_option maxHeartbeats 4000000 in
theorem name_main (s : ByteArray) (w : World) (h1 : (s.toList == [110, 111, 116]) = false) (h2 : (s.toList == [115, 97, 121, 115]) = false) (h3 : s.size ≤ 16) :
 Calls Tryd.prog 24 #[.string s] w fun e w' => e = .returned (.bool (nameGo true (bytesOf s) && decide (0 < s.size))) ∧ w = w' := by
 go_enter Tryd.func24, Tryd.ntmps24
 go_wp2
 go_loop [19] (fun i => ∃ k : Nat, k ≤ s.size ∧ i = .int .i64 k ∧ Aside0 (nameGo true (bytesOf s) = nameGo (k == 0) ((bytesOf s).drop k))) (fun i => s.size - (intOf i).toNat)
 case atStart => exact ⟨0, Nat.zero_le _, rfl, ⟨rfl⟩⟩
 case round =>
  obtain ⟨k, hk, rfl, hg⟩ := hrel
  by_cases hlt : k < s.size
  · have hd := Aside0.mk (bytesOf_drop s k hlt)
    have hb : ∀ h : k < s.size, (s[k].toNat : Int) = bt s k := bt_at s k
    generalize bt s k = c at hb hd
    have hf : ((k : Int) == 0) = (k == 0) := by rw [Bool.eq_iff_iff]; simp
    have ho := Aside0.mk (hg.out.trans ((congrArg (nameGo _) hd.out).trans (nameGo_step _ _ _)))
    clear hg hd
    cases hz : k == 0 <;> rw [hz] at hf ho <;> cases e1 : decide (97 ≤ c) <;> cases e2 : decide (c ≤ 122) <;> cases e3 : decide (c < 48) <;> cases e4 : decide (57 < c) <;> cases e5 : c == 95
    all_goals
     first
     | (exfalso; simp at e1 e2 e3 e4 e5; omega)
     | (have e6 : (c != 95) = !(c == 95) := rfl
        rw [e5] at e6
        go_wp2
        first
        | (go_ret; exact ⟨ret_bool (by rw [ho.out]; simp [lowB, digB, *]), rfl⟩)
        | (go_round; (case rel => exact ⟨k + 1, by omega, by go_num, ⟨by rw [ho.out]; simp [lowB, digB, *]⟩⟩); (case measure => simp [intOf]; omega)))
  · have hke : k = s.size := by omega
    have hl : (bytesOf s).drop k = [] := by rw [List.drop_eq_nil_iff, bytesOf_length]; omega
    have ho := Aside0.mk (hg.out.trans (congrArg (nameGo _) hl))
    clear hl hg hke
    go_wp2
    go_ret
    exact ⟨ret_bool (by rw [ho.out, toList_ne]; rfl), rfl⟩
theorem name_calls (s : ByteArray) (w : World) : Calls Tryd.prog 24 #[.string s] w fun e w' => e = .returned (.bool (nameB s)) ∧ w = w' := by
 unfold nameB
 cases h1 : s.toList == [110, 111, 116]
 · cases h2 : s.toList == [115, 97, 121, 115]
   · by_cases h3 : s.size ≤ 16
     · refine (name_main s w h1 h2 h3).mono fun e w' h => ?_
       simpa [h3] using h
     · have h3' : decide (16 < (s.size : Int)) = true := by simp; omega
       go_enter Tryd.func24, Tryd.ntmps24
       go_wp2
       go_ret
       exact ⟨ret_bool (by simp [h3]), rfl⟩
   · go_enter Tryd.func24, Tryd.ntmps24
     go_wp2
     go_ret
     exact ⟨ret_bool (by simp), rfl⟩
 · go_enter Tryd.func24, Tryd.ntmps24
   go_wp2
   go_ret
   exact ⟨ret_bool (by simp), rfl⟩
end Go.Proofs.YtfhpecgknmfnnaaDoor.M
end
section
namespace Go.Proofs.YtfhpecgknmfnnaaDoor.M
open Go.RowKit Go.Proofs.YtfhpecgknmfnnaaDoorW.PrintWords Go.Proofs.YtfhpecgknmfnnaaDoorW.PrintMore
attribute [local go_sem] max2_int min2_int max_two min_two
def negB (s : ByteArray) : Bool := decide (0 < s.size) && bt s 0 == 45
def cutS (s : ByteArray) : ByteArray := if negB s then s.extract 1 s.size else s
def digs : Int → List Int → Option Int
 | u, [] => some u
 | u, c :: t => if digB c then digs (10 * u + (c - 48)) t else none
def badHead (d : ByteArray) (neg : Bool) : Bool := d.toList.isEmpty || decide (19 < (d.size : Int)) || (bt d 0 == 48 && (neg || decide (1 < (d.size : Int))))
def top63 : Int := 9223372036854775808
def numOf (d : ByteArray) (neg : Bool) : Option Int :=
 if badHead d neg then none else (digs 0 (bytesOf d)).bind fun u => if neg then (if u ≤ top63 then some (-u) else none) else if u < top63 then some u else none
def readV (s : ByteArray) : Val × Bool :=
 if nameB s then (⟨s, 0⟩, true) else match numOf (cutS s) (negB s) with
  | some n => (⟨noStr, n⟩, true)
  | none => (Val.z, false)
theorem first_byte (s : ByteArray) (c : UInt8) (h : 1 ≤ s.size) : ((s.extract 0 1).toList == [c]) = (bt s 0 == (c.toNat : Int)) := by
 rw [toList_eq]
 cases s with
 | mk d => cases d with
   | mk l => cases l with
     | nil => simp [ByteArray.size] at h
     | cons x t =>
       have e : (ByteArray.extract ⟨⟨x :: t⟩⟩ 0 1).data.toList = [x] := by simp [ByteArray.data_extract]
       have e2 : bt ⟨⟨x :: t⟩⟩ 0 = (x.toNat : Int) := by
        rw [← bt_at _ 0 h]; rfl
       rw [e, e2, Bool.eq_iff_iff]
       simp only [beq_iff_eq, List.cons.injEq, and_true]
       constructor
       · rintro rfl; rfl
       · intro h; exact UInt8.toNat_inj.mp (by omega)
def CutPost (s : ByteArray) (w : World) (e : Ending) (w' : World) : Prop := (∃ d neg, e = .returned (.tuple #[.string d, .bool neg]) ∧ d = cutS s ∧ neg = negB s) ∧ w = w'
theorem cut_calls (s : ByteArray) (w : World) : Calls Tryd.prog 78 #[.string s, .string ⟨#[45]⟩] w (CutPost s w) := by
 by_cases h : 1 ≤ s.size
 · have f := first_byte s 45 h
   cases hn : bt s 0 == 45
   · have f2 : ((s.extract 0 1).toList == [45]) = false := f.trans hn
     have hN : Aside0 (negB s = false) := ⟨by simp [negB, hn]⟩
     go_enter Tryd.func78, Tryd.ntmps78
     go_wp2
     go_ret2
     exact ⟨⟨_, _, rfl, by rw [cutS, hN.out]; rfl, hN.out.symm⟩, rfl⟩
   · have f2 : ((s.extract 0 1).toList == [45]) = true := f.trans hn
     have hN : Aside0 (negB s = true) := ⟨by simp [negB, hn]; omega⟩
     go_enter Tryd.func78, Tryd.ntmps78
     go_wp2
     go_ret2
     exact ⟨⟨_, _, rfl, by rw [cutS, hN.out]; rfl, hN.out.symm⟩, rfl⟩
 · have hN : Aside0 (negB s = false) := ⟨by simp [negB]; omega⟩
   go_enter Tryd.func78, Tryd.ntmps78
   go_wp2
   go_ret2
   exact ⟨⟨_, _, rfl, by rw [cutS, hN.out]; rfl, hN.out.symm⟩, rfl⟩
theorem wrap_neg (u : Int) (h0 : 0 ≤ u) (h1 : u ≤ 9223372036854775808) : wrap64 (IntKind.u64.wrap (-u)) = -u := by
 unfold wrap64
 simp only [IntKind.wrap_u64]
 omega
set_option maxHeartbeats 4000000 in
theorem read_calls (s : ByteArray) (w : World) : Calls Tryd.prog 54 #[.string s] w fun e w' =>
 e = .returned (.tuple #[.agg #[.string (readV s).1.sym, .int .i64 (readV s).1.num], .bool (readV s).2]) ∧ Below w.heap.size w w' := by
 cases hN : nameB s
 · have hR : Aside0 (readV s = match numOf (cutS s) (negB s) with | some n => (⟨noStr, n⟩, true) | none => (Val.z, false)) := ⟨by simp [readV, hN]⟩
   have hN' := Aside0.mk hN
   clear hN
   go_enter Tryd.func54, Tryd.ntmps54
   go_wp2_with fail
   refine (name_calls s _).mono ?_; rintro e w1 ⟨rfl, rfl⟩
   rw [hN'.out]
   go_wp2_with fail
   refine (cut_calls s _).mono ?_; rintro e w1 ⟨⟨d, neg, rfl, hd, hn⟩, rfl⟩
   rw [← hd, ← hn] at hR
   clear hd hn hN'
   have hb0 : ∀ h : 0 < d.size, (d[0].toNat : Int) = bt d 0 := bt_at d 0
   by_cases hp : 0 < d.size
   · have e0 : d.toList.isEmpty = false := by have := toList_ne d; simp [hp] at this; simpa using this
     by_cases hl : d.size ≤ 19
     · have e1 : decide (19 < (d.size : Int)) = false := by simp; omega
       generalize hz : bt d 0 = z at hb0
       cases hB : badHead d neg
       · have hg : (z == 48) = false ∨ ((z == 48) = true ∧ neg = false ∧ decide (1 < (d.size : Int)) = false) := by
          revert hB; cases hq : z == 48 <;> simp [badHead, e0, e1, hz, hq]
         rw [numOf, hB] at hR
         clear hB
         have hsz : d.size ≤ maxLen := by unfold maxLen; omega
         rcases hg with e2 | ⟨e2, rfl, e3⟩
         all_goals
          go_wp2
          go_loop [40, 6] (fun i v => ∃ (k : Nat) (u : Int), k ≤ d.size ∧ i = .int .i64 k ∧ v = .int .u64 u ∧ Aside0 (digs 0 (bytesOf d) = digs u ((bytesOf d).drop k) ∧ 0 ≤ u ∧ u < ((10 ^ k : Nat) : Int))) (fun i _ => d.size - (intOf i).toNat)
          case atStart => exact ⟨0, 0, Nat.zero_le _, rfl, rfl, ⟨rfl, by omega, by simp⟩⟩
          case round =>
           obtain ⟨k, u, hk, rfl, rfl, hg⟩ := hrel
           by_cases hlt : k < d.size
           · have hd := Aside0.mk (hg.out.1.trans (congrArg (digs u) (bytesOf_drop d k hlt)))
             have hb : ∀ h : k < d.size, (d[k].toNat : Int) = bt d k := bt_at d k
             have hbr := bt_range d k
             have hu0 : 0 ≤ u := hg.out.2.1
             have hu1 : u < 1000000000000000000 := by
              have h1 := hg.out.2.2
              have h2 : 10 ^ k ≤ 10 ^ 18 := Nat.pow_le_pow_right (by omega) (by omega)
              omega
             generalize bt d k = c at hb hd hbr
             obtain ⟨hc0, hc1⟩ := hbr
             cases e4 : decide (c < 48)
             · cases e5 : decide (57 < c)
               · have hc2 : 48 ≤ c := by simpa using e4
                 have hc3 : c ≤ 57 := by simpa using e5
                 go_wp2
                 go_round
                 case rel => exact ⟨k + 1, 10 * u + (c - 48), by omega, by go_num, by go_num, ⟨by rw [hd.out]; simp [digs, digB, e4, e5], by omega, by have h1 := hg.out.2.2; rw [Nat.pow_succ]; omega⟩⟩
                 case measure => simp [intOf]; omega
               · have hD := Aside0.mk (show digs 0 (bytesOf d) = none by rw [hd.out]; simp [digs, digB, e4, e5])
                 go_wp2
                 exact bodyPost_ret (v := .tuple #[.agg #[.string ⟨#[]⟩, .int .i64 0], .bool false]) (by simp [results, Tryd.results54, go_sem]) rfl ⟨by rw [hR.out]; simp [hD.out, Val.z], (by repeat (first | exact Below.refl _ _ | refine below_alloc ?_ _ | refine below_drew ?_ | refine pw_below_drewN ?_ _))⟩
             · have hD := Aside0.mk (show digs 0 (bytesOf d) = none by rw [hd.out]; simp [digs, digB, e4])
               go_wp2
               exact bodyPost_ret (v := .tuple #[.agg #[.string ⟨#[]⟩, .int .i64 0], .bool false]) (by simp [results, Tryd.results54, go_sem]) rfl ⟨by rw [hR.out]; simp [hD.out, Val.z], (by repeat (first | exact Below.refl _ _ | refine below_alloc ?_ _ | refine below_drew ?_ | refine pw_below_drewN ?_ _))⟩
           · have hl : (bytesOf d).drop k = [] := by rw [List.drop_eq_nil_iff, bytesOf_length]; omega
             have ho := Aside0.mk (hg.out.1.trans (congrArg (digs u) hl))
             have hu0 : 0 ≤ u := hg.out.2.1
             have hu1 : u < 10000000000000000000 := by
              have h1 := hg.out.2.2
              have h2 : 10 ^ k ≤ 10 ^ 19 := Nat.pow_le_pow_right (by omega) (by omega)
              omega
             clear hg hl
             try cases neg
             all_goals
              go_wp2
              all_goals first
              | (have hq : u < 9223372036854775808 := by assumption
                 exact bodyPost_ret (v := .tuple #[.agg #[.string ⟨#[]⟩, .int .i64 u], .bool true]) (by simp [results, Tryd.results54, go_sem]) rfl ⟨by rw [hR.out]; simp [ho.out, digs, top63, hq], (by repeat (first | exact Below.refl _ _ | refine below_alloc ?_ _ | refine below_drew ?_ | refine pw_below_drewN ?_ _))⟩)
              | (have hq : u ≤ 9223372036854775808 := by assumption
                 exact bodyPost_ret (v := .tuple #[.agg #[.string ⟨#[]⟩, .int .i64 (wrap64 (IntKind.u64.wrap (-u)))], .bool true]) (by simp [results, Tryd.results54, go_sem]) rfl ⟨by rw [hR.out, wrap_neg u hu0 hq]; simp [ho.out, digs, top63, hq], (by repeat (first | exact Below.refl _ _ | refine below_alloc ?_ _ | refine below_drew ?_ | refine pw_below_drewN ?_ _))⟩)
              | (have hq : ¬ u ≤ 9223372036854775808 := by omega
                 exact bodyPost_ret (v := .tuple #[.agg #[.string ⟨#[]⟩, .int .i64 0], .bool false]) (by simp [results, Tryd.results54, go_sem]) rfl ⟨by rw [hR.out]; simp [ho.out, digs, top63, hq, Val.z], (by repeat (first | exact Below.refl _ _ | refine below_alloc ?_ _ | refine below_drew ?_ | refine pw_below_drewN ?_ _))⟩)
              | (have hq : ¬ u < 9223372036854775808 := by omega
                 exact bodyPost_ret (v := .tuple #[.agg #[.string ⟨#[]⟩, .int .i64 0], .bool false]) (by simp [results, Tryd.results54, go_sem]) rfl ⟨by rw [hR.out]; simp [ho.out, digs, top63, hq, Val.z], (by repeat (first | exact Below.refl _ _ | refine below_alloc ?_ _ | refine below_drew ?_ | refine pw_below_drewN ?_ _))⟩)
       · have hg : (z == 48) = true ∧ (neg = true ∨ (neg = false ∧ decide (1 < (d.size : Int)) = true)) := by
          revert hB; cases hq : z == 48 <;> cases neg <;> simp [badHead, e0, e1, hz, hq]
         have hB := Aside0.mk hB
         obtain ⟨e2, rfl | ⟨rfl, e3⟩⟩ := hg
         all_goals
          go_wp2
          exact bodyPost_ret (v := .tuple #[.agg #[.string ⟨#[]⟩, .int .i64 0], .bool false]) (by simp [results, Tryd.results54, go_sem]) rfl ⟨by rw [hR.out]; simp [numOf, hB.out, Val.z], (by repeat (first | exact Below.refl _ _ | refine below_alloc ?_ _ | refine below_drew ?_ | refine pw_below_drewN ?_ _))⟩
     · have e1 : decide (19 < (d.size : Int)) = true := by simp; omega
       have hB := Aside0.mk (show badHead d neg = true by simp [badHead, e0, e1])
       go_wp2
       exact bodyPost_ret (v := .tuple #[.agg #[.string ⟨#[]⟩, .int .i64 0], .bool false]) (by simp [results, Tryd.results54, go_sem]) rfl ⟨by rw [hR.out]; simp [numOf, hB.out, Val.z], (by repeat (first | exact Below.refl _ _ | refine below_alloc ?_ _ | refine below_drew ?_ | refine pw_below_drewN ?_ _))⟩
   · have e0 : d.toList.isEmpty = true := by have := toList_ne d; simp [hp] at this; simpa using this
     have hB := Aside0.mk (show badHead d neg = true by simp [badHead, e0])
     go_wp2
     exact bodyPost_ret (v := .tuple #[.agg #[.string ⟨#[]⟩, .int .i64 0], .bool false]) (by simp [results, Tryd.results54, go_sem]) rfl ⟨by rw [hR.out]; simp [numOf, hB.out, Val.z], (by repeat (first | exact Below.refl _ _ | refine below_alloc ?_ _ | refine below_drew ?_ | refine pw_below_drewN ?_ _))⟩
 · have hR : Aside0 (readV s = (⟨s, 0⟩, true)) := ⟨by simp [readV, hN]⟩
   have hN' := Aside0.mk hN
   clear hN
   go_enter Tryd.func54, Tryd.ntmps54
   go_wp2_with fail
   refine (name_calls s _).mono ?_; rintro e w1 ⟨rfl, rfl⟩
   rw [hN'.out]
   go_wp2
   exact bodyPost_ret (v := .tuple #[.agg #[.string s, .int .i64 0], .bool true]) (by simp [results, Tryd.results54, go_sem]) rfl ⟨by rw [hR.out], (by repeat (first | exact Below.refl _ _ | refine below_alloc ?_ _ | refine below_drew ?_ | refine pw_below_drewN ?_ _))⟩
end Go.Proofs.YtfhpecgknmfnnaaDoor.M
end
section
namespace Go.Proofs.YtfhpecgknmfnnaaDoor.M
open Go.RowKit Go.Proofs.YtfhpecgknmfnnaaDoorW.PrintWords Go.Proofs.YtfhpecgknmfnnaaDoorW.PrintMore
attribute [local go_sem] max2_int min2_int max_two min_two
def sortK (p : ByteArray) : Int :=
 if p.toList == [110, 111, 116] || p.toList == [115, 97, 121, 115] then 5 else if nameB p then 1
 else if decide (0 < p.size) && uppB (bt p 0) && decide ((p.size : Int) ≤ 16) then 2 else if (readV p).2 then 3 else 0
theorem ret_u8 {a b : Int} (h : a = b) : Ending.returned (.int .u8 a) = .returned (.int .u8 b) := by rw [h]
set_option maxHeartbeats 4000000 in
theorem sort_calls (p : ByteArray) (w : World) (hp : 0 < p.size) : Calls Tryd.prog 52 #[.string p] w fun e w' => e = .returned (.int .u8 (sortK p)) ∧ Below w.heap.size w w' := by
 have hb0 : ∀ h : 0 < p.size, (p[0].toNat : Int) = bt p 0 := bt_at p 0
 cases h1 : p.toList == [110, 111, 116]
 · cases h2 : p.toList == [115, 97, 121, 115]
   · cases h3 : nameB p
     · have hN := Aside0.mk h3
       have hS := Aside0.mk (show sortK p = if uppB (bt p 0) && decide ((p.size : Int) ≤ 16) then 2 else if (readV p).2 then 3 else 0 by simp [sortK, h1, h2, h3, hp])
       clear h3
       generalize bt p 0 = c at hb0 hS
       cases e1 : decide (65 ≤ c) <;> cases e2 : decide (c ≤ 90) <;> cases e3 : decide ((p.size : Int) ≤ 16)
       all_goals
        cases hr : (readV p).2
        all_goals
         have hR := Aside0.mk hr
         clear hr
         go_enter Tryd.func52, Tryd.ntmps52
         go_wp2_with fail
         refine (name_calls p _).mono ?_; rintro e w1 ⟨rfl, rfl⟩
         rw [hN.out]
         go_wp2_with fail
         first
         | (refine (read_calls p _).mono ?_; rintro e w1 ⟨rfl, hb⟩
            rw [hR.out]
            go_wp2
            go_ret
            exact ⟨ret_u8 (by rw [hS.out, hR.out]; simp [uppB, *]), below_alloc hb _⟩)
         | (go_ret
            exact ⟨ret_u8 (by rw [hS.out]; simp [uppB, *]), Below.refl _ _⟩)
     · have hN := Aside0.mk h3
       have hS := Aside0.mk (show sortK p = 1 by simp [sortK, h1, h2, h3])
       clear h3
       go_enter Tryd.func52, Tryd.ntmps52
       go_wp2_with fail
       refine (name_calls p _).mono ?_; rintro e w1 ⟨rfl, rfl⟩
       rw [hN.out]
       go_wp2
       go_ret
       exact ⟨ret_u8 hS.out.symm, Below.refl _ _⟩
   · go_enter Tryd.func52, Tryd.ntmps52
     go_wp2
     go_ret
     exact ⟨ret_u8 (by simp [sortK, h2]), Below.refl _ _⟩
 · go_enter Tryd.func52, Tryd.ntmps52
   go_wp2
   go_ret
   exact ⟨ret_u8 (by simp [sortK, h1]), Below.refl _ _⟩
end Go.Proofs.YtfhpecgknmfnnaaDoor.M
end
section
namespace Go
def InScope (P : Program) (c rest : Code) (Q : Exit → Act → World → Prop) (a : Act) (w : World) : Prop :=
 ∀ b k cs, ∃ e a' w', Q e a' w' ∧ Arrives P (lone (b.at a (.code rest :: .inScope c :: k)) cs w) b k cs e a' w'
def Exit.hop (P : Program) (c : Code) (Q : Exit → Act → World → Prop) : Exit → Act → World → Prop
 | .goto l, a, w => ∃ r, findLabel c l = some r ∧ InScope P c r Q a w
 | e, a, w => Q e a w
section
variable {P : Program} {a : Act} {w : World} {Q : Exit → Act → World → Prop} {c rest : Code}
theorem Exit.hop_goto {l : Nat} {r : Code} (hf : findLabel c l = some r) (h : InScope P c r Q a w) : Exit.hop P c Q (.goto l) a w := ⟨r, hf, h⟩
@[go_sem] theorem Exit.hop_ret : Exit.hop P c Q .ret a w = Q .ret a w := rfl
@[go_sem] theorem Exit.hop_normal : Exit.hop P c Q .normal a w = Q .normal a w := rfl
@[go_sem] theorem Exit.hop_exit (id : Nat) : Exit.hop P c Q (.exit id) a w = Q (.exit id) a w := rfl
@[go_sem] theorem Exit.hop_panic (ch : List PanicEntry) : Exit.hop P c Q (.panic ch) a w = Q (.panic ch) a w := rfl
theorem InScope.of_wp (h : rest.wp P (Exit.hop P c Q) a w) : InScope P c rest Q a w := by
 intro b k cs
 obtain ⟨e, a₁, w₁, hq, harr⟩ := h b (.inScope c :: k) cs
 cases e with
 | normal => exact ⟨.normal, a₁, w₁, hq, Steps.trans harr (.one step_inScope)⟩
 | exit id => exact ⟨.exit id, a₁, w₁, hq, fun k' hk => harr k' (by simp [exitTo, hk])⟩
 | goto l =>
   obtain ⟨r, hf, hI⟩ := hq
   obtain ⟨e₂, a₂, w₂, hq₂, harr₂⟩ := hI b k cs
   exact ⟨e₂, a₂, w₂, hq₂, .of_steps (harr _ (by simp [gotoIn, hf])) harr₂⟩
 | ret => exact ⟨_, a₁, w₁, hq, harr⟩
 | panic ch => exact ⟨_, a₁, w₁, hq, harr⟩
 | outgrown => exact ⟨_, a₁, w₁, hq, harr⟩
theorem InScope.loop {J : Nat → Act → World → Prop} (step : ∀ n a w, J n a w → (∀ m a' w', m < n → J m a' w' → InScope P c rest Q a' w') → rest.wp P (Exit.hop P c Q) a w) (n : Nat) (h : J n a w) : InScope P c rest Q a w := by
 induction n using Nat.strongRecOn generalizing a w with
 | _ n ih => exact InScope.of_wp (step n a w h fun m a' w' hm hJ => ih m hm hJ)
theorem wp_hop_loop {J : Nat → Act → World → Prop} (step : ∀ n a w, J n a w → (∀ m a' w', m < n → J m a' w' → InScope P c (Code.skip.seq rest) Q a' w') → rest.wp P (Exit.hop P c Q) a w) (n : Nat) (h : J n a w) : rest.wp P (Exit.hop P c Q) a w :=
 step n a w h fun m _ _ _ hJ => InScope.loop (fun n a w hJ ih => wp_seq (wp_skip (step n a w hJ ih))) m hJ
theorem wp_scope_hops (h : InScope P c c Q a w) : (Code.scope c).wp P Q a w := by
 intro b k cs
 obtain ⟨e, a₁, w₁, hq, harr⟩ := h b k cs
 cases e with
 | normal => exact ⟨_, a₁, w₁, hq, .head step_scope harr⟩
 | exit id => exact ⟨_, a₁, w₁, hq, fun k' hk => .head step_scope (harr k' hk)⟩
 | goto l => exact ⟨_, a₁, w₁, hq, .of_steps (.one step_scope) harr⟩
 | ret => exact ⟨_, a₁, w₁, hq, .of_steps (.one step_scope) harr⟩
 | panic ch => exact ⟨_, a₁, w₁, hq, .of_steps (.one step_scope) harr⟩
 | outgrown => exact ⟨_, a₁, w₁, hq, .of_steps (.one step_scope) harr⟩
end
end Go
end
section
namespace Go.Proofs.YtfhpecgknmfnnaaDoor.M
open Go.RowKit Go.Proofs.YtfhpecgknmfnnaaDoorW.PrintWords Go.Proofs.YtfhpecgknmfnnaaDoorW.PrintMore
attribute [local go_sem] max2_int min2_int max_two min_two
def runTo (s : ByteArray) (k : Nat) : Nat := k + (((bytesOf s).drop k).takeWhile pieceB).length
theorem runTo_step (s : ByteArray) (k : Nat) (h : k < s.size) (hp : pieceB (bt s k) = true) : runTo s k = runTo s (k + 1) := by
 unfold runTo; rw [bytesOf_drop s k h, List.takeWhile_cons, if_pos hp, List.length_cons]; omega
theorem runTo_stop (s : ByteArray) (k : Nat) (h : k < s.size) (hp : pieceB (bt s k) = false) : runTo s k = k := by
 unfold runTo; rw [bytesOf_drop s k h, List.takeWhile_cons, if_neg (by simp [hp])]; rfl
theorem runTo_end (s : ByteArray) (k : Nat) (h : s.size ≤ k) : runTo s k = k := by
 unfold runTo
 rw [List.drop_eq_nil_iff.mpr (by rw [bytesOf_length]; exact h)]; rfl
theorem runTo_ge (s : ByteArray) (k : Nat) : k ≤ runTo s k := by unfold runTo; omega
theorem runTo_le (s : ByteArray) (k : Nat) (h : k ≤ s.size) : runTo s k ≤ s.size := by
 unfold runTo
 have h1 : (((bytesOf s).drop k).takeWhile pieceB).length ≤ ((bytesOf s).drop k).length := (List.takeWhile_prefix _).length_le
 rw [List.length_drop, bytesOf_length] at h1
 omega
def pieceTok (s : ByteArray) (p q : Nat) : Tok × Int := if sortK (s.extract p q) = 0 then (Tok.z, 5) else (⟨sortK (s.extract p q), p, q⟩, 0)
def nxt (s : ByteArray) (p : Nat) : Int := if p + 1 < s.size then bt s (p + 1 : Nat) else -1
def oneT (s : ByteArray) (p : Nat) : Tok × Int :=
 if s.size ≤ p then (Tok.z, 1) else
 let c := bt s p
 if c == 32 || c == 9 then (Tok.z, 4)
 else if c == 45 then (if digB (nxt s p) then pieceTok s p (runTo s (p + 1)) else (Tok.z, 5))
 else if pieceB c then pieceTok s p (runTo s (p + 1))
 else if c == 40 || c == 41 || c == 44 || c == 46 || c == 60 then (⟨4, p, p + 1⟩, 0)
 else if (c == 33 && nxt s p == 61) || (c == 58 && nxt s p == 45) then (⟨4, p, p + 2⟩, 0)
 else (Tok.z, 5)
def OnePost (r : Tok × Int) (w : World) (e : Ending) (w' : World) : Prop :=
 e = .returned (.tuple #[.agg #[.int .u8 r.1.kind, .int .i64 r.1.lo, .int .i64 r.1.hi], .int .i64 r.2]) ∧ Below w.heap.size w w'
theorem one_ret {r : Tok × Int} {w w' : World} {k lo hi e : Int} (h : r = (⟨k, lo, hi⟩, e)) (hb : Below w.heap.size w w') : OnePost r w (.returned (.tuple #[.agg #[.int .u8 k, .int .i64 lo, .int .i64 hi], .int .i64 e])) w' := ⟨by rw [h], hb⟩
theorem bel2 (w : World) (o o' : Obj) : Below w.heap.size w ((w.alloc o).alloc o') := below_alloc (below_alloc (Below.refl _ _) o) o'
set_option maxHeartbeats 4000000 in
set_option maxRecDepth 100000 in
theorem one_end (s : ByteArray) (p : Nat) (w : World) (hp : s.size ≤ p) : Calls Tryd.prog 30 #[.string s, .int .i64 p] w (OnePost (Tok.z, 1) w) := by
 have h1 : decide ((p : Int) < 0) = false := by simp
 have h2 : decide ((s.size : Int) ≤ p) = true := by simp; omega
 go_enter Tryd.func30, Tryd.ntmps30
 go_wp2
 refine wp_scope_hops (InScope.of_wp ?_)
 go_wp2
 rw [Exit.hop_ret]
 exact bodyPost_ret (v := .tuple #[.agg #[.int .u8 0, .int .i64 0, .int .i64 0], .int .i64 1]) (by simp [results, Tryd.results30, go_sem]) rfl (one_ret rfl (below_alloc (Below.refl _ _) _))
set_option maxHeartbeats 4000000 in
set_option maxRecDepth 100000 in
theorem one_sign (s : ByteArray) (p : Nat) (w : World) (hp : p < s.size) (hs : s.size ≤ maxLen) (c : Int) (hc : c = bt s p) (h : c = 40 ∨ c = 41 ∨ c = 44 ∨ c = 46 ∨ c = 60) : Calls Tryd.prog 30 #[.string s, .int .i64 p] w (OnePost (⟨4, p, p + 1⟩, 0) w) := by
 unfold maxLen at hs
 have h1 : decide ((p : Int) < 0) = false := by simp
 have h2 : decide ((s.size : Int) ≤ p) = false := by simp; omega
 have hb : ∀ h : p < s.size, (s[p].toNat : Int) = bt s p := bt_at s p
 rw [← hc] at hb
 clear hc
 rcases h with rfl | rfl | rfl | rfl | rfl
 all_goals
  go_enter Tryd.func30, Tryd.ntmps30
  go_wp2
  refine wp_scope_hops (InScope.of_wp ?_)
  go_wp2_with (go_at_call 51; (with_reducible refine (letter_calls _ _).mono ?_); rintro e w1 ⟨rfl, rfl⟩; simp only [show pieceB 40 = false from rfl, show pieceB 41 = false from rfl, show pieceB 44 = false from rfl, show pieceB 46 = false from rfl, show pieceB 60 = false from rfl])
  go_step3
  refine Exit.hop_goto rfl (InScope.of_wp ?_)
  go_wp2
  rw [Exit.hop_ret]
  exact bodyPost_ret (v := .tuple #[.agg #[.int .u8 4, .int .i64 p, .int .i64 (p + 1)], .int .i64 0]) (by simp [results, Tryd.results30, go_sem]) rfl (one_ret rfl (bel2 _ _ _))
set_option maxHeartbeats 4000000 in
set_option maxRecDepth 100000 in
theorem one_blank (s : ByteArray) (p : Nat) (w : World) (hp : p < s.size) (hs : s.size ≤ maxLen) (c : Int) (hc : c = bt s p) (h : c = 32 ∨ c = 9) : Calls Tryd.prog 30 #[.string s, .int .i64 p] w (OnePost (Tok.z, 4) w) := by
 unfold maxLen at hs
 have h1 : decide ((p : Int) < 0) = false := by simp
 have h2 : decide ((s.size : Int) ≤ p) = false := by simp; omega
 have hb : ∀ h : p < s.size, (s[p].toNat : Int) = bt s p := bt_at s p
 rw [← hc] at hb
 clear hc
 rcases h with rfl | rfl
 all_goals
  go_enter Tryd.func30, Tryd.ntmps30
  go_wp2
  refine wp_scope_hops (InScope.of_wp ?_)
  go_wp2
  rw [Exit.hop_ret]
  exact bodyPost_ret (v := .tuple #[.agg #[.int .u8 0, .int .i64 0, .int .i64 0], .int .i64 4]) (by simp [results, Tryd.results30, go_sem]) rfl (one_ret rfl (bel2 _ _ _))
set_option maxHeartbeats 4000000 in
set_option maxRecDepth 100000 in
theorem one_double (s : ByteArray) (p : Nat) (w : World) (hp : p + 1 < s.size) (hs : s.size ≤ maxLen) (c d : Int) (hc : c = bt s p) (hd : d = bt s (p + 1 : Nat)) (h : c = 33 ∧ d = 61 ∨ c = 58 ∧ d = 45) : Calls Tryd.prog 30 #[.string s, .int .i64 p] w (OnePost (⟨4, p, p + 2⟩, 0) w) := by
 unfold maxLen at hs
 have h1 : decide ((p : Int) < 0) = false := by simp
 have h2 : decide ((s.size : Int) ≤ p) = false := by simp; omega
 have hb : ∀ h : p < s.size, (s[p].toNat : Int) = bt s p := bt_at s p
 have hb2 : ∀ h : p + 1 < s.size, (s[p + 1].toNat : Int) = bt s (p + 1 : Nat) := bt_at s (p + 1 : Nat)
 have h3 : ((p : Int) + 1).toNat = p + 1 := by omega
 rw [← hc] at hb
 rw [← hd] at hb2
 clear hc hd
 rcases h with ⟨rfl, rfl⟩ | ⟨rfl, rfl⟩
 all_goals
  go_enter Tryd.func30, Tryd.ntmps30
  go_wp2
  refine wp_scope_hops (InScope.of_wp ?_)
  go_wp2_with (go_at_call 51; (with_reducible refine (letter_calls _ _).mono ?_); rintro e w1 ⟨rfl, rfl⟩; simp only [show pieceB 33 = false from rfl, show pieceB 58 = false from rfl])
  go_step3
  refine Exit.hop_goto rfl (InScope.of_wp ?_)
  go_wp2
  go_step3
  refine Exit.hop_goto rfl (InScope.of_wp ?_)
  go_wp2
  rw [Exit.hop_ret]
  exact bodyPost_ret (v := .tuple #[.agg #[.int .u8 4, .int .i64 p, .int .i64 (p + 1 + 1)], .int .i64 0]) (by simp [results, Tryd.results30, go_sem]) rfl (one_ret (by rw [show (p : Int) + 1 + 1 = p + 2 from by omega]) (bel2 _ _ _))
set_option maxHeartbeats 4000000 in
set_option maxRecDepth 100000 in
theorem one_wrong (s : ByteArray) (p : Nat) (w : World) (hp : p < s.size) (hs : s.size ≤ maxLen) (c : Int) (hc : c = bt s p)
 (h32 : (c == 32) = false) (h9 : (c == 9) = false) (h45 : (c == 45) = false) (hl : pieceB c = false) (h40 : (c == 40) = false) (h41 : (c == 41) = false) (h44 : (c == 44) = false) (h46 : (c == 46) = false) (h60 : (c == 60) = false)
 (h : (c == 33) = false ∧ (c == 58) = false ∨ (c == 33) = true ∧ (s.size ≤ p + 1 ∨ p + 1 < s.size ∧ (bt s (p + 1 : Nat) == 61) = false) ∨ (c == 33) = false ∧ (c == 58) = true ∧ (s.size ≤ p + 1 ∨ p + 1 < s.size ∧ (bt s (p + 1 : Nat) == 45) = false)) :
 Calls Tryd.prog 30 #[.string s, .int .i64 p] w (OnePost (Tok.z, 5) w) := by
 unfold maxLen at hs
 have h1 : decide ((p : Int) < 0) = false := by simp
 have h2 : decide ((s.size : Int) ≤ p) = false := by simp; omega
 have hb : ∀ h : p < s.size, (s[p].toNat : Int) = bt s p := bt_at s p
 have hb2 : ∀ h : p + 1 < s.size, (s[p + 1].toNat : Int) = bt s (p + 1 : Nat) := bt_at s (p + 1 : Nat)
 have h3 : ((p : Int) + 1).toNat = p + 1 := by omega
 rw [← hc] at hb
 generalize bt s (p + 1 : Nat) = d at hb2 h
 clear hc
 have hl := Aside0.mk hl
 rcases h with ⟨k1, k2⟩ | ⟨k1, k2 | ⟨k2, k3⟩⟩ | ⟨k1, k2, k3 | ⟨k3, k4⟩⟩
 all_goals
  go_enter Tryd.func30, Tryd.ntmps30
  go_wp2
  refine wp_scope_hops (InScope.of_wp ?_)
  go_wp2_with (go_at_call 51; (with_reducible refine (letter_calls _ _).mono ?_); rintro e w1 ⟨rfl, rfl⟩; rw [hl.out])
  go_step3
  refine Exit.hop_goto rfl (InScope.of_wp ?_)
  go_wp2
  go_step3
  go_wp2
  rw [Exit.hop_ret]
  exact bodyPost_ret (v := .tuple #[.agg #[.int .u8 0, .int .i64 0, .int .i64 0], .int .i64 5]) (by simp [results, Tryd.results30, go_sem]) rfl (one_ret rfl (bel2 _ _ _))
set_option maxHeartbeats 4000000 in
set_option maxRecDepth 100000 in
theorem one_dash (s : ByteArray) (p : Nat) (w : World) (hp : p < s.size) (hs : s.size ≤ maxLen) (c : Int) (hc : c = bt s p) (h45 : c = 45)
 (h : s.size ≤ p + 1 ∨ p + 1 < s.size ∧ (decide (bt s (p + 1 : Nat) < 48) = true ∨ decide (bt s (p + 1 : Nat) < 48) = false ∧ decide (57 < bt s (p + 1 : Nat)) = true)) :
 Calls Tryd.prog 30 #[.string s, .int .i64 p] w (OnePost (Tok.z, 5) w) := by
 unfold maxLen at hs
 have h1 : decide ((p : Int) < 0) = false := by simp
 have h2 : decide ((s.size : Int) ≤ p) = false := by simp; omega
 have hb : ∀ h : p < s.size, (s[p].toNat : Int) = bt s p := bt_at s p
 have hb2 : ∀ h : p + 1 < s.size, (s[p + 1].toNat : Int) = bt s (p + 1 : Nat) := bt_at s (p + 1 : Nat)
 have h3 : ((p : Int) + 1).toNat = p + 1 := by omega
 rw [← hc] at hb
 generalize bt s (p + 1 : Nat) = d at hb2 h
 clear hc
 subst h45
 rcases h with k1 | ⟨k1, k2 | ⟨k2, k3⟩⟩
 all_goals
  go_enter Tryd.func30, Tryd.ntmps30
  go_wp2
  refine wp_scope_hops (InScope.of_wp ?_)
  go_wp2
  go_step3
  refine Exit.hop_goto rfl (InScope.of_wp ?_)
  go_wp2
  go_step3
  refine Exit.hop_goto rfl (InScope.of_wp ?_)
  go_wp2
  rw [Exit.hop_ret]
  exact bodyPost_ret (v := .tuple #[.agg #[.int .u8 0, .int .i64 0, .int .i64 0], .int .i64 5]) (by simp [results, Tryd.results30, go_sem]) rfl (one_ret rfl (bel2 _ _ _))
end Go.Proofs.YtfhpecgknmfnnaaDoor.M
end
section
namespace Go.Proofs.YtfhpecgknmfnnaaDoor.M
open Go.RowKit Go.Proofs.YtfhpecgknmfnnaaDoorW.PrintWords
def oneFr (s : ByteArray) (p : Nat) (w : World) (u : Nat → Value) : Act := { tmps := #[.string s, .int .i64 p, u 2, u 3, .pointer (some ⟨w.heap.size, 0, none⟩), u 5, .pointer (some ⟨w.heap.size + 1, 0, none⟩), u 7, u 8, u 9, u 10, u 11, u 12, u 13, u 14, u 15, u 16, u 17, u 18, u 19, u 20, u 21, u 22, u 23, u 24, u 25, u 26, u 27, u 28, u 29, u 30, u 31, u 32, u 33, u 34, u 35, u 36, u 37, u 38, u 39, u 40, u 41, u 42, u 43, u 44, u 45, u 46, u 47, u 48, u 49, u 50, u 51, u 52, u 53, u 54, u 55, u 56, u 57, u 58, u 59, u 60, u 61, u 62, u 63, u 64, u 65, u 66, u 67, u 68, u 69, u 70, u 71, u 72, u 73, u 74, u 75, u 76, u 77, u 78, u 79, u 80, u 81, u 82, u 83, u 84, u 85, u 86, u 87, u 88, u 89, u 90, u 91, u 92, u 93, u 94, u 95, u 96, u 97, u 98, u 99, u 100, u 101, u 102, u 103, u 104, u 105, u 106, u 107, u 108, u 109, u 110, u 111, u 112, u 113, u 114, u 115, u 116, u 117, u 118, u 119, u 120, u 121, u 122, u 123], defers := [] }
def oneW (p q : Nat) (w : World) : World := (w.alloc (.cells #[.int .u8 0, .int .i64 0, .int .i64 0] 72)).alloc (.cells #[.int .u8 0, .int .i64 p, .int .i64 q] 72)
def OneAt (s : ByteArray) (p q : Nat) (w : World) (a : Act) (w' : World) : Prop := (∃ u, a = oneFr s p w u) ∧ w' = oneW p q w
theorem OneAt.mk {s : ByteArray} {p q : Nat} {w w' : World} {a : Act} (h : a = oneFr s p w (fun k => a.tmps.getD k undef)) (hw : w' = oneW p q w) : OneAt s p q w a w' := ⟨⟨_, h⟩, hw⟩
theorem OneAt.elim {s : ByteArray} {p q : Nat} {w w' : World} {a : Act} (h : OneAt s p q w a w') {C : Act → World → Prop} (k : ∀ u, C (oneFr s p w u) (oneW p q w)) : C a w' := by
 obtain ⟨⟨u, rfl⟩, rfl⟩ := h
 exact k u
theorem oneW_kept {p q : Nat} {w w1 : World} (hb : Below (oneW p q w).heap.size (oneW p q w) w1) :
 (w1.cell? ⟨w.heap.size, 0, none⟩ = some (.int .u8 0) ∧ w1.cell? ⟨w.heap.size, 1, none⟩ = some (.int .i64 0) ∧ w1.cell? ⟨w.heap.size, 2, none⟩ = some (.int .i64 0)) ∧
 (w1.cell? ⟨w.heap.size + 1, 0, none⟩ = some (.int .u8 0) ∧ w1.cell? ⟨w.heap.size + 1, 1, none⟩ = some (.int .i64 p) ∧ w1.cell? ⟨w.heap.size + 1, 2, none⟩ = some (.int .i64 q)) ∧
 (w1.frozen? ⟨w.heap.size, 0, none⟩ = false ∧ w1.frozen? ⟨w.heap.size, 1, none⟩ = false ∧ w1.frozen? ⟨w.heap.size, 2, none⟩ = false) ∧ (w1.frozen? ⟨w.heap.size + 1, 0, none⟩ = false ∧ w1.frozen? ⟨w.heap.size + 1, 1, none⟩ = false ∧ w1.frozen? ⟨w.heap.size + 1, 2, none⟩ = false) ∧ w.heap.size + 1 < w1.heap.size ∧ Below w.heap.size w w1 := by
 have hz := hb.size
 have e : (oneW p q w).heap.size = w.heap.size + 2 := by simp [oneW]
 have c : ∀ k : Nat, k < w.heap.size + 2 → w1.heap[k]? = (oneW p q w).heap[k]? := fun k hk => hb.block k (by omega)
 have b0 : w1.heap[w.heap.size]? = some (.cells #[.int .u8 0, .int .i64 0, .int .i64 0] 72) := (c _ (by omega)).trans ((Below.heap_alloc _ _ _ (by simp)).trans (heap_alloc_new w _))
 have b1 : w1.heap[w.heap.size + 1]? = some (.cells #[.int .u8 0, .int .i64 p, .int .i64 q] 72) := (c _ (by omega)).trans (by have h := heap_alloc_new (w.alloc (.cells #[.int .u8 0, .int .i64 0, .int .i64 0] 72)) (.cells #[.int .u8 0, .int .i64 p, .int .i64 q] 72); rw [show (w.alloc (.cells #[.int .u8 0, .int .i64 0, .int .i64 0] 72)).heap.size = w.heap.size + 1 by simp] at h; exact h)
 exact ⟨⟨(blk_cell b0 0).trans rfl, (blk_cell b0 1).trans rfl, (blk_cell b0 2).trans rfl⟩, ⟨(blk_cell b1 0).trans rfl, (blk_cell b1 1).trans rfl, (blk_cell b1 2).trans rfl⟩,
  ⟨blk_frozen b0 0, blk_frozen b0 1, blk_frozen b0 2⟩, ⟨blk_frozen b1 0, blk_frozen b1 1, blk_frozen b1 2⟩, by omega, below_then (below_alloc (below_alloc (Below.refl _ _) _) _) (by simp; omega) hb⟩
end Go.Proofs.YtfhpecgknmfnnaaDoor.M
end
section
namespace Go.Proofs.YtfhpecgknmfnnaaDoor.M
open Go.RowKit Go.Proofs.YtfhpecgknmfnnaaDoorW.PrintWords Go.Proofs.YtfhpecgknmfnnaaDoorW.PrintMore
attribute [local go_sem] max2_int min2_int max_two min_two
theorem take_piece (s : ByteArray) (p q : Nat) (h : p < q) (hq : q ≤ s.size) : 0 < (s.extract p q).size := by
 rw [ByteArray.size_extract]; omega
set_option maxHeartbeats 8000000 in
set_option maxRecDepth 100000 in
theorem one_piece (s : ByteArray) (p : Nat) (w : World) (hp : p < s.size) (hs : s.size ≤ maxLen) (c : Int) (hc : c = bt s p) (h32 : (c == 32) = false) (h9 : (c == 9) = false) (k1 : (c == 45) = false) (k2 : pieceB c = true) :
 Calls Tryd.prog 30 #[.string s, .int .i64 p] w (OnePost (pieceTok s p (runTo s (p + 1))) w) := by
 unfold maxLen at hs
 have h1 : decide ((p : Int) < 0) = false := by simp
 have h2 : decide ((s.size : Int) ≤ p) = false := by simp; omega
 have hb : ∀ h : p < s.size, (s[p].toNat : Int) = bt s p := bt_at s p
 rw [← hc] at hb
 clear hc
 have k2 := Aside0.mk k2
 go_enter Tryd.func30, Tryd.ntmps30
 go_wp2
 refine wp_scope_hops (InScope.of_wp ?_)
 go_wp2_with (go_at_call 51; (with_reducible refine (letter_calls _ _).mono ?_); rintro e w1 ⟨rfl, rfl⟩; rw [k2.out])
 go_step3
 refine Exit.hop_goto rfl ?_
 refine InScope.loop (J := fun n a' w' => ∃ q, n = s.size - q ∧ p < q ∧ q ≤ s.size ∧ Aside0 (runTo s (p + 1) = runTo s q) ∧ OneAt s p q w a' w') ?step (s.size - (p + 1)) ?init
 case init => exact ⟨p + 1, rfl, by omega, by omega, ⟨rfl⟩, OneAt.mk rfl (by unfold oneW; rw [show ((p + 1 : Nat) : Int) = (p : Int) + 1 from by omega])⟩
 case step =>
  clear hb h1 h2 h32 h9 k1
  rintro n a w0 ⟨q, rfl, hpq, hq, hr, hO⟩ ih
  have ih := Aside0.mk ih
  refine OneAt.elim hO (C := fun a w0 => Code.wp _ _ _ a w0) ?_
  clear hO
  intro u
  simp only [oneFr, oneW]
  have j1 : (p : Int) ≤ (q : Int) := by omega
  have j2 : (q : Int) ≤ (s.size : Int) := by omega
  by_cases hlt : q < s.size
  · have hb : ∀ h : q < s.size, (s[q].toNat : Int) = bt s q := bt_at s q
    cases hc : pieceB (bt s q)
    · have hr := Aside0.mk (hr.out.trans (runTo_stop s q hlt hc))
      have hc := Aside0.mk hc
      generalize bt s q = c at hb hc
      go_wp2_with fail
      refine (letter_calls _ _).mono ?_; rintro e w1 ⟨rfl, rfl⟩; rw [hc.out]
      go_wp2_with fail
      refine (sort_calls _ _ (take_piece s p q hpq hq)).mono ?_
      rintro e w1 ⟨rfl, hb1⟩
      obtain ⟨⟨f0, f1, f2⟩, ⟨g0, g1, g2⟩, ⟨f3, f4, f5⟩, ⟨g3, g4, g5⟩, hz, hb2⟩ := oneW_kept hb1
      have hb2 := Aside0.mk hb2
      clear hb1
      obtain ⟨sk, hsk⟩ : ∃ sk, sk = sortK (s.extract p q) := ⟨_, rfl⟩
      rw [← hsk]
      have hsk := Aside0.mk hsk
      cases hk : sk == 0
      · have hne := Aside0.mk (beq_eq_false_iff_ne.mp hk)
        go_wp2
        rw [Exit.hop_ret]
        exact bodyPost_ret (v := .tuple #[.agg #[.int .u8 sk, .int .i64 p, .int .i64 q], .int .i64 0]) (by simp [results, Tryd.results30, go_sem, f0, f1, f2, g0, g1, g2, f3, f4, f5, g3, g4, g5, hz, hsk.out]) rfl (one_ret (by rw [hr.out]; unfold pieceTok; rw [if_neg (by rw [← hsk.out]; exact hne.out), ← hsk.out]) (by repeat (first | exact hb2.out | refine hb2.out.setCell ?_ _ | refine Below.setCell ?_ ?_ _ | simp)))
      · have hne := Aside0.mk (beq_iff_eq.mp hk)
        go_wp2
        go_step3
        refine Exit.hop_goto rfl (InScope.of_wp ?_)
        go_wp2
        rw [Exit.hop_ret]
        exact bodyPost_ret (v := .tuple #[.agg #[.int .u8 0, .int .i64 0, .int .i64 0], .int .i64 5]) (by simp [results, Tryd.results30, go_sem, f0, f1, f2, g0, g1, g2, f3, f4, f5, g3, g4, g5, hz, hsk.out]) rfl (one_ret (by rw [hr.out]; unfold pieceTok; rw [if_pos (by rw [← hsk.out]; exact hne.out)]; rfl) (by repeat (first | exact hb2.out | refine Below.setCell ?_ ?_ _ | simp)))
    · have hr2 := Aside0.mk (hr.out.trans (runTo_step s q hlt hc))
      have hc := Aside0.mk hc
      generalize bt s q = c at hb hc
      go_wp2_with (go_at_call 51; (with_reducible refine (letter_calls _ _).mono ?_); rintro e w1 ⟨rfl, rfl⟩; rw [hc.out])
      go_step3
      refine Exit.hop_goto rfl (ih.out _ _ _ (show s.size - (q + 1) < s.size - q by omega) ⟨q + 1, rfl, by omega, by omega, hr2, OneAt.mk rfl (by unfold oneW; rw [show ((q + 1 : Nat) : Int) = (q : Int) + 1 from by omega])⟩)
  · have hr := Aside0.mk (hr.out.trans (runTo_end s q (by omega)))
    go_wp2_with fail
    go_wp2_with fail
    refine (sort_calls _ _ (take_piece s p q hpq hq)).mono ?_
    rintro e w1 ⟨rfl, hb1⟩
    obtain ⟨⟨f0, f1, f2⟩, ⟨g0, g1, g2⟩, ⟨f3, f4, f5⟩, ⟨g3, g4, g5⟩, hz, hb2⟩ := oneW_kept hb1
    have hb2 := Aside0.mk hb2
    clear hb1
    obtain ⟨sk, hsk⟩ : ∃ sk, sk = sortK (s.extract p q) := ⟨_, rfl⟩
    rw [← hsk]
    have hsk := Aside0.mk hsk
    cases hk : sk == 0
    · have hne := Aside0.mk (beq_eq_false_iff_ne.mp hk)
      go_wp2
      rw [Exit.hop_ret]
      exact bodyPost_ret (v := .tuple #[.agg #[.int .u8 sk, .int .i64 p, .int .i64 q], .int .i64 0]) (by simp [results, Tryd.results30, go_sem, f0, f1, f2, g0, g1, g2, f3, f4, f5, g3, g4, g5, hz, hsk.out]) rfl (one_ret (by rw [hr.out]; unfold pieceTok; rw [if_neg (by rw [← hsk.out]; exact hne.out), ← hsk.out]) (by repeat (first | exact hb2.out | refine hb2.out.setCell ?_ _ | refine Below.setCell ?_ ?_ _ | simp)))
    · have hne := Aside0.mk (beq_iff_eq.mp hk)
      go_wp2
      go_step3
      refine Exit.hop_goto rfl (InScope.of_wp ?_)
      go_wp2
      rw [Exit.hop_ret]
      exact bodyPost_ret (v := .tuple #[.agg #[.int .u8 0, .int .i64 0, .int .i64 0], .int .i64 5]) (by simp [results, Tryd.results30, go_sem, f0, f1, f2, g0, g1, g2, f3, f4, f5, g3, g4, g5, hz, hsk.out]) rfl (one_ret (by rw [hr.out]; unfold pieceTok; rw [if_pos (by rw [← hsk.out]; exact hne.out)]; rfl) (by repeat (first | exact hb2.out | refine Below.setCell ?_ ?_ _ | simp)))
set_option maxHeartbeats 8000000 in
set_option maxRecDepth 100000 in
theorem one_minus (s : ByteArray) (p : Nat) (w : World) (hp : p < s.size) (hs : s.size ≤ maxLen) (c : Int) (hc : c = bt s p) (h32 : (c == 32) = false) (h9 : (c == 9) = false) (k1 : (c == 45) = true) (k2 : p + 1 < s.size) (k3 : decide (bt s (p + 1 : Nat) < 48) = false) (k4 : decide (57 < bt s (p + 1 : Nat)) = false) :
 Calls Tryd.prog 30 #[.string s, .int .i64 p] w (OnePost (pieceTok s p (runTo s (p + 1))) w) := by
 unfold maxLen at hs
 have h1 : decide ((p : Int) < 0) = false := by simp
 have h2 : decide ((s.size : Int) ≤ p) = false := by simp; omega
 have hb : ∀ h : p < s.size, (s[p].toNat : Int) = bt s p := bt_at s p
 rw [← hc] at hb
 clear hc
 have hb2 : ∀ h : p + 1 < s.size, (s[p + 1].toNat : Int) = bt s (p + 1 : Nat) := bt_at s (p + 1 : Nat)
 have h3 : ((p : Int) + 1).toNat = p + 1 := by omega
 have k5 := Aside0.mk (show pieceB (bt s (p + 1 : Nat)) = true by simp only [pieceB, digB, k3, k4]; simp)
 have k6 := Aside0.mk (runTo_step s (p + 1) k2 k5.out)
 generalize bt s (p + 1 : Nat) = d at hb2 k3 k4 k5
 go_enter Tryd.func30, Tryd.ntmps30
 go_wp2
 refine wp_scope_hops (InScope.of_wp ?_)
 go_wp2
 go_step3
 refine Exit.hop_goto rfl (InScope.of_wp ?_)
 go_wp2
 go_step3
 go_wp2_with (go_at_call 51; (with_reducible refine (letter_calls _ _).mono ?_); rintro e w1 ⟨rfl, rfl⟩; rw [k5.out])
 go_step3
 refine Exit.hop_goto rfl ?_
 clear hb2 h3 k3 k4
 refine InScope.loop (J := fun n a' w' => ∃ q, n = s.size - q ∧ p < q ∧ q ≤ s.size ∧ Aside0 (runTo s (p + 1) = runTo s q) ∧ OneAt s p q w a' w') ?step (s.size - (p + 2)) ?init
 case init => exact ⟨p + 2, rfl, by omega, by omega, ⟨k6.out⟩, OneAt.mk rfl (by unfold oneW; rw [show ((p + 2 : Nat) : Int) = (p : Int) + 1 + 1 from by omega])⟩
 case step =>
  clear hb h1 h2 h32 h9 k1
  rintro n a w0 ⟨q, rfl, hpq, hq, hr, hO⟩ ih
  have ih := Aside0.mk ih
  refine OneAt.elim hO (C := fun a w0 => Code.wp _ _ _ a w0) ?_
  clear hO
  intro u
  simp only [oneFr, oneW]
  have j1 : (p : Int) ≤ (q : Int) := by omega
  have j2 : (q : Int) ≤ (s.size : Int) := by omega
  by_cases hlt : q < s.size
  · have hb : ∀ h : q < s.size, (s[q].toNat : Int) = bt s q := bt_at s q
    cases hc : pieceB (bt s q)
    · have hr := Aside0.mk (hr.out.trans (runTo_stop s q hlt hc))
      have hc := Aside0.mk hc
      generalize bt s q = c at hb hc
      go_wp2_with fail
      refine (letter_calls _ _).mono ?_; rintro e w1 ⟨rfl, rfl⟩; rw [hc.out]
      go_wp2_with fail
      refine (sort_calls _ _ (take_piece s p q hpq hq)).mono ?_
      rintro e w1 ⟨rfl, hb1⟩
      obtain ⟨⟨f0, f1, f2⟩, ⟨g0, g1, g2⟩, ⟨f3, f4, f5⟩, ⟨g3, g4, g5⟩, hz, hb2⟩ := oneW_kept hb1
      have hb2 := Aside0.mk hb2
      clear hb1
      obtain ⟨sk, hsk⟩ : ∃ sk, sk = sortK (s.extract p q) := ⟨_, rfl⟩
      rw [← hsk]
      have hsk := Aside0.mk hsk
      cases hk : sk == 0
      · have hne := Aside0.mk (beq_eq_false_iff_ne.mp hk)
        go_wp2
        rw [Exit.hop_ret]
        exact bodyPost_ret (v := .tuple #[.agg #[.int .u8 sk, .int .i64 p, .int .i64 q], .int .i64 0]) (by simp [results, Tryd.results30, go_sem, f0, f1, f2, g0, g1, g2, f3, f4, f5, g3, g4, g5, hz, hsk.out]) rfl (one_ret (by rw [hr.out]; unfold pieceTok; rw [if_neg (by rw [← hsk.out]; exact hne.out), ← hsk.out]) (by repeat (first | exact hb2.out | refine hb2.out.setCell ?_ _ | refine Below.setCell ?_ ?_ _ | simp)))
      · have hne := Aside0.mk (beq_iff_eq.mp hk)
        go_wp2
        go_step3
        refine Exit.hop_goto rfl (InScope.of_wp ?_)
        go_wp2
        rw [Exit.hop_ret]
        exact bodyPost_ret (v := .tuple #[.agg #[.int .u8 0, .int .i64 0, .int .i64 0], .int .i64 5]) (by simp [results, Tryd.results30, go_sem, f0, f1, f2, g0, g1, g2, f3, f4, f5, g3, g4, g5, hz, hsk.out]) rfl (one_ret (by rw [hr.out]; unfold pieceTok; rw [if_pos (by rw [← hsk.out]; exact hne.out)]; rfl) (by repeat (first | exact hb2.out | refine Below.setCell ?_ ?_ _ | simp)))
    · have hr2 := Aside0.mk (hr.out.trans (runTo_step s q hlt hc))
      have hc := Aside0.mk hc
      generalize bt s q = c at hb hc
      go_wp2_with (go_at_call 51; (with_reducible refine (letter_calls _ _).mono ?_); rintro e w1 ⟨rfl, rfl⟩; rw [hc.out])
      go_step3
      refine Exit.hop_goto rfl (ih.out _ _ _ (show s.size - (q + 1) < s.size - q by omega) ⟨q + 1, rfl, by omega, by omega, hr2, OneAt.mk rfl (by unfold oneW; rw [show ((q + 1 : Nat) : Int) = (q : Int) + 1 from by omega])⟩)
  · have hr := Aside0.mk (hr.out.trans (runTo_end s q (by omega)))
    go_wp2_with fail
    go_wp2_with fail
    refine (sort_calls _ _ (take_piece s p q hpq hq)).mono ?_
    rintro e w1 ⟨rfl, hb1⟩
    obtain ⟨⟨f0, f1, f2⟩, ⟨g0, g1, g2⟩, ⟨f3, f4, f5⟩, ⟨g3, g4, g5⟩, hz, hb2⟩ := oneW_kept hb1
    have hb2 := Aside0.mk hb2
    clear hb1
    obtain ⟨sk, hsk⟩ : ∃ sk, sk = sortK (s.extract p q) := ⟨_, rfl⟩
    rw [← hsk]
    have hsk := Aside0.mk hsk
    cases hk : sk == 0
    · have hne := Aside0.mk (beq_eq_false_iff_ne.mp hk)
      go_wp2
      rw [Exit.hop_ret]
      exact bodyPost_ret (v := .tuple #[.agg #[.int .u8 sk, .int .i64 p, .int .i64 q], .int .i64 0]) (by simp [results, Tryd.results30, go_sem, f0, f1, f2, g0, g1, g2, f3, f4, f5, g3, g4, g5, hz, hsk.out]) rfl (one_ret (by rw [hr.out]; unfold pieceTok; rw [if_neg (by rw [← hsk.out]; exact hne.out), ← hsk.out]) (by repeat (first | exact hb2.out | refine hb2.out.setCell ?_ _ | refine Below.setCell ?_ ?_ _ | simp)))
    · have hne := Aside0.mk (beq_iff_eq.mp hk)
      go_wp2
      go_step3
      refine Exit.hop_goto rfl (InScope.of_wp ?_)
      go_wp2
      rw [Exit.hop_ret]
      exact bodyPost_ret (v := .tuple #[.agg #[.int .u8 0, .int .i64 0, .int .i64 0], .int .i64 5]) (by simp [results, Tryd.results30, go_sem, f0, f1, f2, g0, g1, g2, f3, f4, f5, g3, g4, g5, hz, hsk.out]) rfl (one_ret (by rw [hr.out]; unfold pieceTok; rw [if_pos (by rw [← hsk.out]; exact hne.out)]; rfl) (by repeat (first | exact hb2.out | refine Below.setCell ?_ ?_ _ | simp)))
end Go.Proofs.YtfhpecgknmfnnaaDoor.M
end
section
namespace Go.Proofs.YtfhpecgknmfnnaaDoor.M
open Go.RowKit Go.Proofs.YtfhpecgknmfnnaaDoorW.PrintWords Go.Proofs.YtfhpecgknmfnnaaDoorW.PrintMore
attribute [local go_sem] max2_int min2_int max_two min_two
theorem one_calls (s : ByteArray) (p : Nat) (w : World) (hs : s.size ≤ maxLen) : Calls Tryd.prog 30 #[.string s, .int .i64 p] w (OnePost (oneT s p) w) := by
 unfold oneT
 by_cases hp : s.size ≤ p
 · rw [if_pos hp]; exact one_end s p w hp
 rw [if_neg hp]
 replace hp : p < s.size := by omega
 generalize hc : bt s p = c
 simp only
 cases h32 : c == 32
 · cases h9 : c == 9
   · cases h45 : c == 45
     · cases hl : pieceB c
       · simp only [Bool.or_false, Bool.false_eq_true, if_false]
         by_cases h : c = 40 ∨ c = 41 ∨ c = 44 ∨ c = 46 ∨ c = 60
         · have e : (c == 40 || c == 41 || c == 44 || c == 46 || c == 60) = true := by simpa [or_assoc] using h
           rw [if_pos e]; exact one_sign s p w hp hs c hc.symm h
         · have e : (c == 40 || c == 41 || c == 44 || c == 46 || c == 60) = false := by
            rw [Bool.eq_false_iff]; intro q; exact h (by simpa [or_assoc] using q)
           rw [if_neg (by rw [e]; simp)]
           simp only [Bool.or_eq_false_iff] at e
           obtain ⟨⟨⟨⟨e1, e2⟩, e3⟩, e4⟩, e5⟩ := e
           by_cases h2 : (c == 33 && nxt s p == 61 || c == 58 && nxt s p == 45) = true
           · rw [if_pos h2]
             have hn : p + 1 < s.size := by
              rcases Nat.lt_or_ge (p + 1) s.size with q | q
              · exact q
              · exfalso; simp [nxt, show ¬ p + 1 < s.size by omega] at h2
             refine one_double s p w hn hs c _ hc.symm rfl ?_
             rw [nxt, if_pos hn] at h2
             simpa using h2
           · rw [if_neg h2]
             refine one_wrong s p w hp hs c hc.symm h32 h9 h45 hl e1 e2 e3 e4 e5 ?_
             rw [Bool.not_eq_true] at h2
             simp only [Bool.or_eq_false_iff, Bool.and_eq_false_iff] at h2
             rcases Nat.lt_or_ge (p + 1) s.size with q | q
             · rw [nxt, if_pos q] at h2
               cases k1 : c == 33 <;> cases k2 : c == 58 <;> simp_all
             · cases k1 : c == 33 <;> cases k2 : c == 58 <;> simp_all
       · simp only [Bool.or_false, Bool.false_eq_true, if_false, if_true]
         exact one_piece s p w hp hs c hc.symm h32 h9 h45 hl
     · simp only [Bool.or_false, Bool.false_eq_true, if_false, if_true]
       have hc45 : c = 45 := beq_iff_eq.mp h45
       cases hd : digB (nxt s p)
       · simp only [Bool.false_eq_true, if_false]
         refine one_dash s p w hp hs c hc.symm hc45 ?_
         rcases Nat.lt_or_ge (p + 1) s.size with q | q
         · rw [nxt, if_pos q, digB] at hd
           cases k1 : decide (bt s (p + 1 : Nat) < 48) <;> cases k2 : decide (57 < bt s (p + 1 : Nat)) <;> simp_all
         · exact .inl q
       · simp only [if_true]
         have hn : p + 1 < s.size := by
          rcases Nat.lt_or_ge (p + 1) s.size with q | q
          · exact q
          · exfalso; simp [nxt, show ¬ p + 1 < s.size by omega, digB] at hd
         rw [nxt, if_pos hn, digB, Bool.and_eq_true, Bool.not_eq_true', Bool.not_eq_true'] at hd
         exact one_minus s p w hp hs c hc.symm h32 h9 h45 hn hd.1 hd.2
   · have h : c = 9 := beq_iff_eq.mp h9
     simp only [Bool.or_true, if_true]
     exact one_blank s p w hp hs c hc.symm (.inr h)
 · have h : c = 32 := beq_iff_eq.mp h32
   simp only [Bool.true_or, if_true]
   exact one_blank s p w hp hs c hc.symm (.inl h)
end Go.Proofs.YtfhpecgknmfnnaaDoor.M
end
section
namespace Go.Proofs.YtfhpecgknmfnnaaDoor.M
open Go.RowKit Go.Proofs.YtfhpecgknmfnnaaDoorW.PrintWords Go.Proofs.YtfhpecgknmfnnaaDoorW.PrintMore
attribute [local go_sem] max2_int min2_int max_two min_two
def allGo (s : ByteArray) : Nat → Nat → List Tok → List Tok × Int × Int
 | 0, _, _ => ([], 0, 0)
 | f + 1, p, acc => if s.size ≤ p then (acc, 0, 0) else if (oneT s p).2 = 4 then allGo s f (p + 1) acc
   else if (oneT s p).2 = 0 then allGo s f (oneT s p).1.hi.toNat (acc ++ [(oneT s p).1]) else ([], p, (oneT s p).2)
def allT (s : ByteArray) : List Tok × Int × Int := if 4096 < s.size then ([], 0, 2) else allGo s (s.size + 1) 0 []
theorem oneT_ok (s : ByteArray) (p : Nat) (h : (oneT s p).2 = 0) : (oneT s p).1.lo = p ∧ (p : Int) < (oneT s p).1.hi ∧ (oneT s p).1.hi ≤ s.size := by
 unfold oneT at h ⊢
 by_cases hp : s.size ≤ p
 · rw [if_pos hp] at h; simp at h
 rw [if_neg hp] at h ⊢
 have piece : (pieceTok s p (runTo s (p + 1))).2 = 0 → (pieceTok s p (runTo s (p + 1))).1.lo = p ∧ (p : Int) < (pieceTok s p (runTo s (p + 1))).1.hi ∧ (pieceTok s p (runTo s (p + 1))).1.hi ≤ s.size := by
  intro h
  unfold pieceTok at h ⊢
  have h1 := runTo_ge s (p + 1)
  have h2 := runTo_le s (p + 1) (by omega)
  split at h
  · simp at h
  · rename_i hk; rw [if_neg hk]; exact ⟨rfl, by show (p : Int) < ((runTo s (p + 1) : Nat) : Int); omega, by show ((runTo s (p + 1) : Nat) : Int) ≤ _; omega⟩
 simp only at h ⊢
 split at h
 · simp at h
 rename_i c1; rw [if_neg c1]
 split at h
 · rename_i c2; rw [if_pos c2]
   split at h
   · rename_i c3; rw [if_pos c3]; exact piece h
   · simp at h
 rename_i c2; rw [if_neg c2]
 split at h
 · rename_i c3; rw [if_pos c3]; exact piece h
 rename_i c3; rw [if_neg c3]
 split at h
 · rename_i c4; rw [if_pos c4]; exact ⟨rfl, by show (p : Int) < p + 1; omega, by show (p : Int) + 1 ≤ _; omega⟩
 rename_i c4; rw [if_neg c4]
 split at h
 · rename_i c5; rw [if_pos c5]
   have hn : p + 1 < s.size := by
    rcases Nat.lt_or_ge (p + 1) s.size with q | q
    · exact q
    · exfalso; simp [nxt, show ¬ p + 1 < s.size by omega] at c5
   exact ⟨rfl, by show (p : Int) < p + 2; omega, by show (p : Int) + 2 ≤ _; omega⟩
 · simp at h
def allFr (s : ByteArray) (v : Value) (p : Nat) (u : Nat → Value) : Act := { tmps := #[.string s, u 1, u 2, u 3, u 4, v, .int .i64 p, u 7, u 8, u 9, u 10, u 11, u 12, u 13, u 14, u 15, u 16, u 17, u 18, u 19, u 20, u 21, u 22, u 23, u 24, u 25, u 26, u 27, u 28, u 29, u 30, u 31, u 32, u 33, u 34, u 35, u 36, u 37], defers := [] }
theorem allFr.mk {s : ByteArray} {v : Value} {p : Nat} {a : Act} (h : a = allFr s v p (fun k => a.tmps.getD k undef)) : ∃ u, a = allFr s v p u := ⟨_, h⟩
theorem info_tok : (Tryd.prog.info? 72).map (fun i => (i.zero, i.size, i.bytes)) = some (some (.agg #[(.int .u8 0), (.int .i64 0), (.int .i64 0)]), 3, 24) := by kernel_rfl
theorem kTok_mkM (w : World) (base : Nat) (ok : Nat → Prop) (k lo hi : Int) : kTok.M w base ok ⟨k, lo, hi⟩ [.int .u8 k, .int .i64 lo, .int .i64 hi] := ⟨[.int .u8 k], [.int .i64 lo, .int .i64 hi], rfl, rfl, ⟨[.int .i64 lo], [.int .i64 hi], rfl, rfl, rfl⟩⟩
theorem append_room (n : Nat) (h : n ≤ 4096) : (n + 1) * 24 ≤ 140737488355328 := by omega
def AllAt (s : ByteArray) (w : World) (r : List Tok × Int × Int) (n : Nat) (a : Act) (w' : World) : Prop :=
 ∃ p acc v f, n = s.size - p ∧ p ≤ s.size ∧ acc.length ≤ p ∧ s.size - p < f ∧ allGo s f p acc = r ∧ (∃ u, a = allFr s v p u) ∧ Kd.R kTok 72 w' w.heap.size (fun _ => True) v acc ∧ Below w.heap.size w w'
theorem AllAt.elim {s : ByteArray} {w : World} {r : List Tok × Int × Int} {n : Nat} {a : Act} {w' : World} (h : AllAt s w r n a w') {C : Act → Prop}
 (k : ∀ p acc v f u, p ≤ s.size → acc.length ≤ p → Aside0 (s.size - p < f ∧ allGo s f p acc = r ∧ n = s.size - p) → Kd.R kTok 72 w' w.heap.size (fun _ => True) v acc → Below w.heap.size w w' → C (allFr s v p u)) : C a := by
 obtain ⟨p, acc, v, f, h0, h1, h2, h3, h4, ⟨u, rfl⟩, h5, h6⟩ := h
 exact k p acc v f u h1 h2 ⟨h3, h4, h0⟩ h5 h6
def AllPost (r : List Tok × Int × Int) (w : World) (e : Ending) (w' : World) : Prop :=
 (∃ v, e = .returned (.tuple #[v, .int .i64 r.2.1, .int .i64 r.2.2]) ∧ Kd.R kTok 72 w' w.heap.size (fun _ => True) v r.1) ∧ Below w.heap.size w w'
set_option maxHeartbeats 8000000 in
set_option maxRecDepth 100000 in
theorem all_calls (s : ByteArray) (w : World) (hs : s.size ≤ maxLen) : Calls Tryd.prog 17 #[.string s] w (AllPost (allT s) w) := by
 unfold maxLen at hs
 by_cases h1 : 4096 < s.size
 · have h2 : decide (4096 < (s.size : Int)) = true := by simp; omega
   have hT := Aside0.mk (show allT s = ([], 0, 2) by simp [allT, h1])
   go_enter Tryd.func17, Tryd.ntmps17
   go_wp2
   refine wp_scope_hops (InScope.of_wp ?_)
   go_wp2
   rw [Exit.hop_ret]
   exact bodyPost_ret (v := .tuple #[.slice none 0 0, .int .i64 0, .int .i64 2]) (by simp [results, Tryd.results17, go_sem]) rfl ⟨⟨_, by rw [hT.out], by rw [hT.out]; exact Kd.R_nil _ _ _ _ _⟩, Below.refl _ _⟩
 · have h2 : decide (4096 < (s.size : Int)) = false := by simp; omega
   have hT := Aside0.mk (show allT s = allGo s (s.size + 1) 0 [] by simp [allT, h1])
   go_enter Tryd.func17, Tryd.ntmps17
   go_wp2
   refine wp_scope_hops (InScope.of_wp ?_)
   go_wp2
   go_step3
   rename_i K hK
   refine hK _ _ ?_
   clear hK K
   refine wp_hop_loop (J := AllAt s w (allT s)) ?step (s.size - 0) ?init
   case init => exact ⟨0, [], _, s.size + 1, rfl, by omega, by simp, by omega, hT.out.symm, allFr.mk rfl, Kd.R_nil _ _ _ _ _, Below.refl _ _⟩
   case step =>
    clear h2 hT
    intro n a w1 hJ ih
    have ih := Aside0.mk ih
    refine hJ.elim (C := fun a => Code.wp _ _ _ a w1) ?_
    clear hJ
    intro p acc v f u hp hal hf hR hB
    simp only [allFr]
    obtain ⟨f, rfl⟩ : ∃ f', f = f' + 1 := ⟨f - 1, by have := hf.out.1; omega⟩
    have hR := Aside0.mk hR
    have hB := Aside0.mk hB
    by_cases hlt : p < s.size
    · have hne : ((p : Int) == (s.size : Int)) = false := by rw [beq_eq_false_iff_ne]; omega
      go_wp2_with fail
      refine (one_calls s p _ (by unfold maxLen; omega)).mono ?_
      rintro e w2 ⟨rfl, hb⟩
      have hg := hf.out.2.1
      simp only [allGo, show ¬ s.size ≤ p by omega, if_false] at hg
      have hok := oneT_ok s p
      generalize oneT s p = r at hg hok
      obtain ⟨⟨k, lo, hi⟩, e⟩ := r
      simp only at hg hok
      by_cases h4 : e = 4
      · rw [if_pos h4] at hg
        have hg := Aside0.mk hg
        subst h4
        go_wp2
        go_step3
        refine Exit.hop_goto ?hf (ih.out (s.size - (p + 1)) _ _ ?hm ?hJ)
        case hf => rfl
        case hm => have := hf.out.2.2; omega
        case hJ => exact ⟨p + 1, acc, v, f, rfl, by omega, by omega, by have := hf.out.1; omega, hg.out, allFr.mk (by unfold allFr; rw [show ((p + 1 : Nat) : Int) = (p : Int) + 1 from by omega]; rfl), Kd.R_alloc (Kd.R_below hR.out hb) _, below_alloc (below_then hB.out hB.out.size hb) _⟩
      · by_cases h0 : e = 0
        · subst h0
          obtain ⟨rfl, hl, hh⟩ := hok rfl
          have hg := Aside0.mk hg
          clear h4 hok
          have hR2 := Aside0.mk (Kd.R_below hR.out hb)
          have hB2 := Aside0.mk (below_then hB.out hB.out.size hb)
          go_wp2_with ((with_reducible refine gate_builtin (b := .append) (xs := #[.tmp 30, .tmp 32]) rfl ?_); at_builtin; refine Kd.R_append kTok (w0 := w) w.heap.size rfl (.tmp 30) (.tmp 32) 51 72 (.agg #[(.int .u8 0), (.int .i64 0), (.int .i64 0)]) 24 rfl Tryd.underlying51 info_tok rfl (by decide) (by omega) v acc ⟨k, p, hi⟩ [.int .u8 k, .int .i64 p, .int .i64 hi] (fun _ => True) (fun _ => False) rfl (by first | (go_simp; done) | (go_simp; rfl)) ?aP (fun _ hk => hk.elim) (fun _ _ => trivial) ?aO ?aB ?aS ?aL ?_)
          case aP => exact kTok_mkM _ _ _ _ _ _
          case aO => exact Kd.R_alloc hR2.out _
          case aB => exact below_alloc hB2.out _
          case aS => exact (below_alloc hB2.out _).size
          case aL => exact append_room _ (by omega)
          intro v1 w3 hR1 hB1 hg1 hat1
          have hbx : w3.heap[w2.heap.size]? = some (.cells #[.int .u8 k, .int .i64 p, .int .i64 hi] 72 (0, 0)) :=
           (hg1.block _ (by simp) (fun h => Nat.lt_irrefl _ (Kd.R_lt hR2.out _ h.symm))).trans (heap_alloc_new w2 _)
          have c2 : w3.cell? ⟨w2.heap.size, 2, none⟩ = some (.int .i64 hi) := (blk_cell hbx 2).trans rfl
          have hR1 := Aside0.mk hR1
          have hB1 := Aside0.mk hB1
          clear hbx hg1 hat1
          obtain ⟨q, rfl⟩ : ∃ q : Nat, hi = (q : Int) := ⟨hi.toNat, by omega⟩
          go_wp2
          go_step3
          refine Exit.hop_goto ?hf (ih.out (s.size - q) _ _ ?hm ?hJ)
          case hf => rfl
          case hm => have := hf.out.2.2; omega
          case hJ => exact ⟨q, acc ++ [⟨k, p, q⟩], v1, f, rfl, by omega, by simp; omega, by have := hf.out.1; omega, by have h := hg.out; simpa using h, allFr.mk rfl, hR1.out, hB1.out⟩
        · have hg := Aside0.mk hg
          have hR2 := Aside0.mk (Kd.R_below hR.out hb)
          have hB2 := Aside0.mk (below_then hB.out hB.out.size hb)
          have h4' : (e == 4) = false := beq_eq_false_iff_ne.mpr h4
          have h0' : (e == 0) = false := beq_eq_false_iff_ne.mpr h0
          have h4 := Aside0.mk h4
          have h0 := Aside0.mk h0
          clear hok
          go_wp2
          rw [Exit.hop_ret]
          exact bodyPost_ret (v := .tuple #[.slice none 0 0, .int .i64 p, .int .i64 e]) (by simp [results, Tryd.results17, go_sem]) rfl ⟨⟨_, by rw [← hg.out, if_neg h4.out, if_neg h0.out], by rw [← hg.out, if_neg h4.out, if_neg h0.out]; exact Kd.R_nil _ _ _ _ _⟩, below_alloc hB2.out _⟩
    · have hne : ((p : Int) == (s.size : Int)) = true := by rw [beq_iff_eq]; omega
      have hg := hf.out.2.1
      simp only [allGo, show s.size ≤ p by omega, if_true] at hg
      have hg := Aside0.mk hg
      go_wp2
      rw [Exit.hop_ret]
      exact bodyPost_ret (v := .tuple #[v, .int .i64 0, .int .i64 0]) (by simp [results, Tryd.results17, go_sem]) rfl ⟨⟨v, by rw [← hg.out], by rw [← hg.out]; exact hR.out⟩, hB.out⟩
end Go.Proofs.YtfhpecgknmfnnaaDoor.M
end
section
namespace Go.Proofs.YtfhpecgknmfnnaaDoor.M
open Go.RowKit Go.Proofs.YtfhpecgknmfnnaaDoorW.PrintWords Go.Proofs.YtfhpecgknmfnnaaDoorW.PrintMore
attribute [local go_sem] max2_int min2_int max_two min_two
def Tokish (w0 : World) (k : Nat) : Prop := ∃ cells, w0.heap[k]? = some (.cells cells 72 (0, 0))
def Free (w0 : World) (k : Nat) : Prop := w0.heap.size ≤ k ∨ ¬ Tokish w0 k
structure Bel (w0 w : World) : Prop where
 size : w0.heap.size ≤ w.heap.size
 tok : ∀ k, Tokish w0 k → w.heap[k]? = w0.heap[k]?
namespace Bel
variable {w0 w w' : World}
theorem lt {k : Nat} (h : Tokish w0 k) : k < w0.heap.size := by
 obtain ⟨c, h⟩ := h
 exact blk_lt h
theorem refl (w : World) : Bel w w := ⟨Nat.le_refl _, fun _ _ => rfl⟩
theorem fr {S : Nat → Prop} (h : Bel w0 w) (f : Fr S w w') (hs : ∀ k, S k → Free w0 k) : Bel w0 w' :=
 ⟨Nat.le_trans h.size f.size, fun k hk => (f.block k (Nat.lt_of_lt_of_le (lt hk) h.size) (fun q => (hs k q).elim (fun z => Nat.not_lt.mpr z (lt hk)) (fun z => z hk))).trans (h.tok k hk)⟩
theorem alloc (h : Bel w0 w) (o : Obj) : Bel w0 (w.alloc o) := h.fr ((Fr.refl (fun _ => False) w).alloc o) (fun _ q => q.elim)
theorem drew (h : Bel w0 w) : Bel w0 w.drew := ⟨h.size, h.tok⟩
theorem drewN (h : Bel w0 w) (n : Nat) : Bel w0 (w.drewN n) := ⟨h.size, h.tok⟩
theorem setCell {p : Addr} (h : Bel w0 w) (hp : w0.heap.size ≤ p.block) (u : Value) : Bel w0 (w.setCell p u) := h.fr ((Fr.refl (fun k => k = p.block) w).set p (Or.inl rfl) u) (fun k q => by subst q; exact Or.inl hp)
end Bel
def TokC (w0 : World) (A : Option Addr) (T : List Tok) : Prop := Kd.C kTok w0 A T.length T ∧ ∀ a, A = some a → T ≠ [] → Tokish w0 a.block
theorem tok_at {w0 w : World} {A : Option Addr} {T : List Tok} (hh : TokC w0 A T) (hB : Bel w0 w) (n : Nat) (t : Tok) (ht : T[n]? = some t) :
 ∃ ad, A = some ad ∧ w.cell? (ad.add (n * 3)) = some (.int .u8 t.kind) ∧ w.cell? ⟨(ad.add (n * 3)).block, (ad.add (n * 3)).off + 1, none⟩ = some (.int .i64 t.lo) ∧ w.cell? ⟨(ad.add (n * 3)).block, (ad.add (n * 3)).off + 2, none⟩ = some (.int .i64 t.hi) := by
 obtain ⟨h, hk⟩ := hh
 have hl : n < T.length := (List.getElem?_eq_some_iff.1 ht).1
 obtain ⟨ad, e, hc⟩ := h.2.2 (by have := h.1; omega)
 obtain ⟨c, _, hK, hx⟩ := hc n t ht
 obtain ⟨_, _, rfl, rfl, ⟨_, _, rfl, rfl, rfl⟩⟩ := hK
 have hb := hB.tok _ (hk ad e (by intro q; rw [q] at hl; simp at hl))
 have mv : ∀ (p : Addr) (v : Value), p.block = ad.block → w0.cell? p = some v → w.cell? p = some v := by
  intro p v hp hc
  unfold World.cell? at hc ⊢
  rw [hp] at hc ⊢
  rw [hb]; exact hc
 have ha : (ad.add (n * 3)).block = ad.block := by unfold Addr.add; split <;> rfl
 exact ⟨ad, e, mv _ _ ha (hx 0 _ rfl), mv _ _ ha (by rw [← add_field _ _ 1 (by omega)]; exact hx 1 _ rfl), mv _ _ ha (by rw [← add_field _ _ 2 (by omega)]; exact hx 2 _ rfl)⟩
def TokOk (s : ByteArray) (T : List Tok) : Prop := T.length ≤ 4096 ∧ ∀ t ∈ T, 0 ≤ t.lo ∧ t.lo ≤ t.hi ∧ t.hi ≤ s.size
def PAt (w0 : World) (T : List Tok) (s : ByteArray) (w : World) (g n : Nat) : Prop :=
 ∃ A c, w.heap[g]? = some (.cells #[.string s, .slice A T.length c, .int .i64 n] 103 (0, 0)) ∧ w0.heap.size ≤ g ∧ T.length ≤ c ∧ TokC w0 A T ∧ n ≤ T.length
abbrev PR (α : Type) := Except (Int × Int) (α × Nat)
def posOf (T : List Tok) (s : ByteArray) (n : Nat) : Int := match T[n]? with | some t => t.lo | none => s.size
def kindT (T : List Tok) (n : Nat) : Int := match T[n]? with | some t => t.kind | none => 0
def tokS (s : ByteArray) (t : Tok) : ByteArray := s.extract t.lo.toNat t.hi.toNat
def textT (T : List Tok) (s : ByteArray) (n : Nat) : ByteArray := match T[n]? with | some t => tokS s t | none => noStr
def isT (T : List Tok) (s : ByteArray) (n : Nat) (x : ByteArray) : Bool := match T[n]? with | some t => (tokS s t).toList == x.toList | none => false
theorem ret_i64 {a b : Int} (h : a = b) : Ending.returned (.int .i64 a) = .returned (.int .i64 b) := by rw [h]
theorem kind_calls {w0 : World} {T : List Tok} {s : ByteArray} {w : World} {g n : Nat} (h : PAt w0 T s w g n) (hB : Bel w0 w) :
 Calls Tryd.prog 84 #[.pointer (some ⟨g, 0, none⟩)] w fun e w' => e = .returned (.int .u8 (kindT T n)) ∧ Drawn0 w w' := by
 obtain ⟨A, c, hb, hg, hc, hC, _⟩ := h
 have hm : T.length ≤ 9223372036854775807 := Kd.C_max hC.1
 have c0 : w.cell? ⟨g, 0, none⟩ = some (.string s) := (blk_cell hb 0).trans rfl
 have c1 : w.cell? ⟨g, 1, none⟩ = some (.slice A T.length c) := (blk_cell hb 1).trans rfl
 have c2 : w.cell? ⟨g, 2, none⟩ = some (.int .i64 n) := (blk_cell hb 2).trans rfl
 cases ht : T[n]? with
 | none =>
   have hl : T.length ≤ n := List.getElem?_eq_none_iff.1 ht
   have hd : decide ((n : Int) < (T.length : Int)) = false := by simp; omega
   have hk := Aside0.mk (show kindT T n = 0 by unfold kindT; rw [ht])
   clear ht hb hC
   go_enter Tryd.func84, Tryd.ntmps84
   go_wp2
   repeat (go_quiet (fail); try go_wp2)
   go_ret
   exact ⟨ret_u8 hk.out.symm, by repeat (first | exact Drawn0.refl _ | apply Drawn0.step)⟩
 | some t =>
   have hl : n < T.length := (List.getElem?_eq_some_iff.1 ht).1
   have hd : decide ((n : Int) < (T.length : Int)) = true := by simp; omega
   have hk := Aside0.mk (show kindT T n = t.kind by unfold kindT; rw [ht])
   obtain ⟨ad, rfl, d0, d1, d2⟩ := tok_at hC hB n t ht
   clear ht hb hC d1 d2
   go_enter Tryd.func84, Tryd.ntmps84
   go_wp2
   repeat (go_quiet (fail); try go_wp2)
   go_ret
   exact ⟨ret_u8 hk.out.symm, by repeat (first | exact Drawn0.refl _ | apply Drawn0.step)⟩
theorem at_calls {w0 : World} {T : List Tok} {s : ByteArray} {w : World} {g n : Nat} (h : PAt w0 T s w g n) (hB : Bel w0 w) :
 Calls Tryd.prog 94 #[.pointer (some ⟨g, 0, none⟩)] w fun e w' => e = .returned (.int .i64 (posOf T s n)) ∧ Drawn0 w w' := by
 obtain ⟨A, c, hb, hg, hc, hC, _⟩ := h
 have hm : T.length ≤ 9223372036854775807 := Kd.C_max hC.1
 have c0 : w.cell? ⟨g, 0, none⟩ = some (.string s) := (blk_cell hb 0).trans rfl
 have c1 : w.cell? ⟨g, 1, none⟩ = some (.slice A T.length c) := (blk_cell hb 1).trans rfl
 have c2 : w.cell? ⟨g, 2, none⟩ = some (.int .i64 n) := (blk_cell hb 2).trans rfl
 cases ht : T[n]? with
 | none =>
   have hl : T.length ≤ n := List.getElem?_eq_none_iff.1 ht
   have hd : decide ((n : Int) < (T.length : Int)) = false := by simp; omega
   have hk := Aside0.mk (show posOf T s n = s.size by unfold posOf; rw [ht])
   clear ht hb hC
   go_enter Tryd.func94, Tryd.ntmps94
   go_wp2
   repeat (go_quiet (fail); try go_wp2)
   go_ret
   exact ⟨ret_i64 hk.out.symm, by repeat (first | exact Drawn0.refl _ | apply Drawn0.step)⟩
 | some t =>
   have hl : n < T.length := (List.getElem?_eq_some_iff.1 ht).1
   have hd : decide ((n : Int) < (T.length : Int)) = true := by simp; omega
   have hk := Aside0.mk (show posOf T s n = t.lo by unfold posOf; rw [ht])
   obtain ⟨ad, rfl, d0, d1, d2⟩ := tok_at hC hB n t ht
   clear ht hb hC d0 d2
   go_enter Tryd.func94, Tryd.ntmps94
   go_wp2
   repeat (go_quiet (fail); try go_wp2)
   go_ret
   exact ⟨ret_i64 hk.out.symm, by repeat (first | exact Drawn0.refl _ | apply Drawn0.step)⟩
abbrev stopE (p e : Int) : Ending := .panicked [{ v := .iface 131 (.agg #[.int .i64 p, .int .i64 e]), recovered := false }]
theorem fail_calls {w0 : World} {T : List Tok} {s : ByteArray} {w : World} {g n : Nat} (x : Int) (h : PAt w0 T s w g n) (hB : Bel w0 w) :
 Calls Tryd.prog 80 #[.pointer (some ⟨g, 0, none⟩), .int .i64 x] w fun e w' => e = stopE (posOf T s n) x ∧ Drawn0 w w' := by
 go_enter Tryd.func80, Tryd.ntmps80
 go_wp2_with fail
 refine (at_calls h hB).mono ?_; rintro e w1 ⟨rfl, hd⟩
 go_wp2
 exact ⟨rfl, rfl, hd⟩
theorem is_calls {w0 : World} {T : List Tok} {s : ByteArray} {w : World} {g n : Nat} (k : Int) (m : Nat) (x : ByteArray) (hk : (n : Int) + k = m) (h : PAt w0 T s w g n) (hB : Bel w0 w) (hT : TokOk s T) (hm1 : (m : Int) ≤ 9223372036854775807) :
 Calls Tryd.prog 58 #[.pointer (some ⟨g, 0, none⟩), .int .i64 k, .string x] w fun e w' => e = .returned (.bool (isT T s m x)) ∧ Drawn0 w w' := by
 obtain ⟨A, c, hb, hg, hc, hC, _⟩ := h
 have hm : T.length ≤ 9223372036854775807 := Kd.C_max hC.1
 have c0 : w.cell? ⟨g, 0, none⟩ = some (.string s) := (blk_cell hb 0).trans rfl
 have c1 : w.cell? ⟨g, 1, none⟩ = some (.slice A T.length c) := (blk_cell hb 1).trans rfl
 have c2 : w.cell? ⟨g, 2, none⟩ = some (.int .i64 n) := (blk_cell hb 2).trans rfl
 cases ht : T[m]? with
 | none =>
   have hl : T.length ≤ m := List.getElem?_eq_none_iff.1 ht
   have hd : decide ((m : Int) < (T.length : Int)) = false := by simp; omega
   have hd2 : decide (m < T.length) = false := by simp; omega
   have hk' := Aside0.mk (show isT T s m x = false by unfold isT; rw [ht])
   clear ht hb hC
   go_enter Tryd.func58, Tryd.ntmps58
   go_wp2
   repeat (go_quiet (fail); try go_wp2)
   go_ret
   exact ⟨ret_bool hk'.out.symm, by repeat (first | exact Drawn0.refl _ | apply Drawn0.step)⟩
 | some t =>
   have hl : m < T.length := (List.getElem?_eq_some_iff.1 ht).1
   have hd : decide ((m : Int) < (T.length : Int)) = true := by simp; omega
   have hk' := Aside0.mk (show isT T s m x = ((tokS s t).toList == x.toList) by unfold isT; rw [ht])
   obtain ⟨ad, rfl, d0, d1, d2⟩ := tok_at hC hB m t ht
   obtain ⟨t0, t1, t2⟩ := hT.2 t (List.mem_of_getElem? ht)
   clear ht hb hC d0
   go_enter Tryd.func58, Tryd.ntmps58
   go_wp2
   repeat (go_quiet (fail); try go_wp2)
   go_ret
   exact ⟨ret_bool hk'.out.symm, by repeat (first | exact Drawn0.refl _ | apply Drawn0.step)⟩
end Go.Proofs.YtfhpecgknmfnnaaDoor.M
end
section
namespace Go.Proofs.YtfhpecgknmfnnaaDoor.M
open Go.RowKit Go.Proofs.YtfhpecgknmfnnaaDoorW.PrintWords Go.Proofs.YtfhpecgknmfnnaaDoorW.PrintMore
attribute [local go_sem] max2_int min2_int max_two min_two
theorem int_at {w : World} {A : Option Addr} {m : Nat} {k : IntKind} {T : List Int} (h : Kd.C (Kd.int k) w A m T) (n : Nat) (t : Int) (ht : T[n]? = some t) :
 ∃ ad, A = some ad ∧ w.cell? (ad.add n) = some (.int k t) := by
 have hl : n < T.length := (List.getElem?_eq_some_iff.1 ht).1
 obtain ⟨ad, e, hc⟩ := h.2.2 (by have := h.1; omega)
 obtain ⟨c, _, hK, hx⟩ := hc n t ht
 obtain rfl := hK
 exact ⟨ad, e, by have h := hx 0 _ rfl; rwa [Nat.add_zero, show (Kd.int k).sz = 1 from rfl, Nat.mul_one] at h⟩
def hasB (ks : List Int) (x : Int) : Bool := ks.contains x
def IdxPost (T : List Int) (x : Int) (w : World) (e : Ending) (w' : World) : Prop := (∃ r : Int, e = .returned (.int .i64 r) ∧ decide (0 ≤ r) = hasB T x ∧ r ≤ T.length ∧ -1 ≤ r) ∧ Drawn0 w w'
set_option maxHeartbeats 1000000 in
theorem index_u8 {w : World} {A : Option Addr} {c : Nat} {T : List Int} (x : Int) (h : Kd.C (Kd.int .u8) w A T.length T) :
 Calls Tryd.prog 100 #[.slice A T.length c, .int .u8 x] w (IdxPost T x w) := by
 have hm : T.length ≤ 9223372036854775807 := Kd.C_max h
 go_enter Tryd.func100, Tryd.ntmps100
 go_wp2
 go_loopw [8, 5] (fun i u wr => ∃ k : Nat, k ≤ T.length ∧ i = .int .i64 k ∧ Aside0 (∀ j, j < k → T[j]? ≠ some x) ∧ Drawn0 w wr) (fun i _ _ => T.length - (intOf i).toNat)
 case atStart => exact ⟨0, Nat.zero_le _, rfl, ⟨fun j hj => absurd hj (by omega)⟩, Drawn0.refl _⟩
 case round =>
  obtain ⟨k, hk, rfl, hg, ⟨mc, rfl⟩⟩ := hrel
  by_cases hlt : k < T.length
  · obtain ⟨t, ht⟩ : ∃ t, T[k]? = some t := ⟨_, List.getElem?_eq_getElem hlt⟩
    obtain ⟨ad, rfl, hc⟩ := int_at h k t ht
    replace hc : (w.drewN mc).cell? (ad.add k) = some (.int .u8 t) := hc
    have ht := Aside0.mk ht
    cases hx : x == t
    · go_wp2
      go_roundw
      case rel => exact ⟨k + 1, by omega, by go_num, ⟨fun j hj => by
       rcases Nat.lt_or_ge j k with q | q
       · exact hg.out j q
       · obtain rfl : j = k := by omega
         rw [ht.out]; intro e; injection e with e; simp [e] at hx⟩, by repeat (first | exact Drawn0.refl _ | apply Drawn0.step)⟩
      case measure => simp [intOf]; omega
    · go_wp2
      go_ret
      exact ⟨⟨_, rfl, by rw [hasB, List.contains_iff_mem.mpr (List.mem_of_getElem? (by rw [ht.out, beq_iff_eq.mp hx]))]; simp, by omega, by omega⟩, by repeat (first | exact Drawn0.refl _ | apply Drawn0.step)⟩
  · have hn : hasB T x = false := by
     unfold hasB
     rw [Bool.eq_false_iff]; intro h
     obtain ⟨j, hj, he⟩ := List.getElem_of_mem (List.contains_iff_mem.mp h)
     exact hg.out j (by omega) (by rw [List.getElem?_eq_getElem hj, he])
    have hn := Aside0.mk hn
    go_wp2
    go_ret
    exact ⟨⟨_, rfl, by rw [hn.out]; rfl, by omega, by omega⟩, by repeat (first | exact Drawn0.refl _ | apply Drawn0.step)⟩
theorem contains_u8 {w : World} {A : Option Addr} {c : Nat} {T : List Int} (x : Int) (h : Kd.C (Kd.int .u8) w A T.length T) :
 Calls Tryd.prog 95 #[.slice A T.length c, .int .u8 x] w fun e w' => e = .returned (.bool (hasB T x)) ∧ Drawn0 w w' := by
 go_enter Tryd.func95, Tryd.ntmps95
 go_wp2_with fail
 refine (index_u8 x h).mono ?_; rintro e w1 ⟨⟨r, rfl, hr, _, _⟩, ⟨mc, rfl⟩⟩
 replace hr := Aside0.mk hr
 go_wp2
 go_ret
 exact ⟨ret_bool hr.out, by repeat (first | exact Drawn0.refl _ | apply Drawn0.step)⟩
def PPost {α : Type} (w0 : World) (T : List Tok) (s : ByteArray) (g : Nat) (S : Nat → Prop) (w : World) (okV : α → Value → World → Prop) (r : PR α) (e : Ending) (w' : World) : Prop := match r with
 | .ok (a, n') => (∃ v, e = .returned v ∧ okV a v w') ∧ PAt w0 T s w' g n' ∧ Fr S w w'
 | .error (p, x) => e = stopE p x ∧ Fr S w w'
theorem PAt.fr {w0 w w' : World} {T : List Tok} {s : ByteArray} {g n : Nat} {S : Nat → Prop} (h : PAt w0 T s w g n) (f : Fr S w w') (hs : ¬ S g) : PAt w0 T s w' g n := by
 obtain ⟨A, c, hb, r⟩ := h
 exact ⟨A, c, f.blk hb hs, r⟩
theorem PAt.below {w0 w w' : World} {T : List Tok} {s : ByteArray} {g n : Nat} (h : PAt w0 T s w g n) (f : Below w.heap.size w w') : PAt w0 T s w' g n :=
 h.fr (Fr.of_below (S := fun _ => False) f) (fun q => q)
theorem PAt.alloc {w0 w : World} {T : List Tok} {s : ByteArray} {g n : Nat} (h : PAt w0 T s w g n) (o : Obj) : PAt w0 T s (w.alloc o) g n := h.below (below_alloc (Below.refl _ _) o)
theorem PAt.drew {w0 w : World} {T : List Tok} {s : ByteArray} {g n : Nat} (h : PAt w0 T s w g n) : PAt w0 T s w.drew g n := h
theorem PAt.drewN {w0 w : World} {T : List Tok} {s : ByteArray} {g n : Nat} (h : PAt w0 T s w g n) (m : Nat) : PAt w0 T s (w.drewN m) g n := h
theorem PAt.far {w0 w : World} {T : List Tok} {s : ByteArray} {g n : Nat} {p : Addr} {u : Value} (h : PAt w0 T s w g n) (hp : g ≠ p.block) : PAt w0 T s (w.setCell p u) g n := by
 obtain ⟨A, c, hb, r⟩ := h
 exact ⟨A, c, blk_far hb hp, r⟩
theorem PAt.lt {w0 w : World} {T : List Tok} {s : ByteArray} {g n : Nat} (h : PAt w0 T s w g n) : g < w.heap.size := by
 obtain ⟨A, c, hb, r⟩ := h
 exact blk_lt hb
theorem PAt.ge {w0 w : World} {T : List Tok} {s : ByteArray} {g n : Nat} (h : PAt w0 T s w g n) : w0.heap.size ≤ g := by
 obtain ⟨A, c, hb, hg, r⟩ := h
 exact hg
theorem PAt.drawn {w0 w w' : World} {T : List Tok} {s : ByteArray} {g n : Nat} (h : PAt w0 T s w g n) (hd : Drawn0 w w') : PAt w0 T s w' g n := by
 obtain ⟨⟨m, rfl⟩⟩ := hd
 exact h
theorem blk_drawn {w w' : World} {b : Nat} {o : Obj} (h : w.heap[b]? = some o) (hd : Drawn0 w w') : w'.heap[b]? = some o := by
 obtain ⟨⟨m, rfl⟩⟩ := hd
 exact h
theorem drawn_trans {a b c : World} (h : Drawn0 a b) (k : Drawn0 b c) : Drawn0 a c := by
 obtain ⟨⟨m, rfl⟩⟩ := k
 exact h.step m
theorem drawn_size {w w' : World} (h : Drawn0 w w') : w'.heap.size = w.heap.size := by
 obtain ⟨⟨m, rfl⟩⟩ := h
 rfl
theorem bel_drawn {w0 w w' : World} (h : Bel w0 w) (hd : Drawn0 w w') : Bel w0 w' := by
 obtain ⟨⟨m, rfl⟩⟩ := hd
 exact h.drewN m
theorem Fr.drawn {S : Nat → Prop} {a w w' : World} (h : Fr S a w) (hd : Drawn0 w w') : Fr S a w' := by
 obtain ⟨⟨m, rfl⟩⟩ := hd
 exact h.drewN m
theorem C_drawn {α : Type} {d : Kd α} {w w' : World} {A : Option Addr} {n : Nat} {xs : List α} (h : d.C w A n xs) (hd : Drawn0 w w') : d.C w' A n xs := by
 obtain ⟨⟨m, rfl⟩⟩ := hd
 exact Kd.C_drewN h m
theorem cell_alloc {w : World} {a : Addr} {v : Value} (h : w.cell? a = some v) (o : Obj) : (w.alloc o).cell? a = some v := pw_cell_below (below_alloc (Below.refl _ _) o) h
theorem frozen_past {w : World} {a : Addr} (hl : a.block < w.heap.size) (h : w.frozen? a = false) (o : Obj) : (w.alloc o).frozen? a = false := ((below_alloc (Below.refl _ _) o).frozen hl).trans h
theorem PAt.cells {w0 w : World} {T : List Tok} {s : ByteArray} {g n : Nat} (h : PAt w0 T s w g n) :
 ∃ A c, w.cell? ⟨g, 0, none⟩ = some (.string s) ∧ w.cell? ⟨g, 1, none⟩ = some (.slice A T.length c) ∧ w.cell? ⟨g, 2, none⟩ = some (.int .i64 n) ∧ w.frozen? ⟨g, 2, none⟩ = false ∧ T.length ≤ 9223372036854775807 ∧ T.length ≤ c ∧ TokC w0 A T := by
 obtain ⟨A, c, hb, hg, hc, hC, _⟩ := h
 exact ⟨A, c, (blk_cell hb 0).trans rfl, (blk_cell hb 1).trans rfl, (blk_cell hb 2).trans rfl, blk_frozen hb 2, Kd.C_max hC.1, hc, hC⟩
theorem PAt.tok {w0 w : World} {T : List Tok} {s : ByteArray} {g n : Nat} (h : PAt w0 T s w g n) (hB : Bel w0 w) (hT : TokOk s T) (t : Tok) (ht : T[n]? = some t) :
 ∃ ad c, w.cell? ⟨g, 0, none⟩ = some (.string s) ∧ w.cell? ⟨g, 1, none⟩ = some (.slice (some ad) T.length c) ∧ w.cell? ⟨g, 2, none⟩ = some (.int .i64 n) ∧ w.frozen? ⟨g, 2, none⟩ = false ∧ T.length ≤ 9223372036854775807 ∧ T.length ≤ c ∧ n < T.length ∧
   w.cell? (ad.add (n * 3)) = some (.int .u8 t.kind) ∧ w.cell? ⟨(ad.add (n * 3)).block, (ad.add (n * 3)).off + 1, none⟩ = some (.int .i64 t.lo) ∧ w.cell? ⟨(ad.add (n * 3)).block, (ad.add (n * 3)).off + 2, none⟩ = some (.int .i64 t.hi) ∧ 0 ≤ t.lo ∧ t.lo ≤ t.hi ∧ t.hi ≤ s.size := by
 obtain ⟨A, c, c0, c1, c2, f2, hm, hc, hC⟩ := h.cells
 obtain ⟨ad, rfl, d0, d1, d2⟩ := tok_at hC hB n t ht
 exact ⟨ad, c, c0, c1, c2, f2, hm, hc, (List.getElem?_eq_some_iff.1 ht).1, d0, d1, d2, hT.2 t (List.mem_of_getElem? ht)⟩
theorem PAt.le {w0 w : World} {T : List Tok} {s : ByteArray} {g n : Nat} (h : PAt w0 T s w g n) : n ≤ T.length := by
 obtain ⟨A, c, hb, hg, hc, hC, hn⟩ := h
 exact hn
theorem PAt.max {w0 w : World} {T : List Tok} {s : ByteArray} {g n : Nat} (h : PAt w0 T s w g n) : n ≤ 9223372036854775807 := by
 obtain ⟨A, c, hb, hg, hc, hC, hn⟩ := h
 exact Nat.le_trans hn (Kd.C_max hC.1)
theorem PAt.max1 {w0 w : World} {T : List Tok} {s : ByteArray} {g n : Nat} (h : PAt w0 T s w g n) (hT : TokOk s T) : ((n + 1 : Nat) : Int) ≤ 9223372036854775807 := by
 obtain ⟨A, c, hb, hg, hc, hC, hn⟩ := h
 have := hT.1
 omega
theorem PAt.to {w0 w : World} {T : List Tok} {s : ByteArray} {g n : Nat} (h : PAt w0 T s w g n) (m : Nat) (x : Int) (hx : x = m) (hm : m ≤ T.length) : PAt w0 T s (w.setCell ⟨g, 2, none⟩ (.int .i64 x)) g m := by
 obtain ⟨A, c, hb, hg, hc, hC, _⟩ := h
 subst hx
 exact ⟨A, c, by simpa using blk_set hb 2 (.int .i64 m), hg, hc, hC, hm⟩
def takeP (T : List Tok) (s : ByteArray) (ks : List Int) (n : Nat) : PR ByteArray := if hasB ks (kindT T n) then .ok (textT T s n, n + 1) else .error (posOf T s n, 6)
set_option maxHeartbeats 4000000 in
theorem take_calls {w0 : World} {T : List Tok} {s : ByteArray} {w : World} {g n : Nat} {A : Option Addr} {c : Nat} {ks : List Int} (h0 : hasB ks 0 = false) (hk : Kd.C (Kd.int .u8) w A ks.length ks)
 (h : PAt w0 T s w g n) (hB : Bel w0 w) (hT : TokOk s T) :
 Calls Tryd.prog 81 #[.pointer (some ⟨g, 0, none⟩), .slice A ks.length c] w (PPost w0 T s g (· = g) w (fun x v _ => v = .string x) (takeP T s ks n)) := by
 cases hq : hasB ks (kindT T n)
 · have hr := Aside0.mk (show takeP T s ks n = .error (posOf T s n, 6) by unfold takeP; rw [hq]; rfl)
   have hq := Aside0.mk hq
   have h' := Aside0.mk h
   have hB' := Aside0.mk hB
   go_enter Tryd.func81, Tryd.ntmps81
   go_wp2_with fail
   refine (kind_calls h hB).mono ?_; rintro e w1 ⟨rfl, ⟨m1, rfl⟩⟩
   go_wp2_with fail
   refine (contains_u8 (kindT T n) (Kd.C_drewN hk _)).mono ?_; rintro e w1 ⟨rfl, ⟨m2, rfl⟩⟩
   rw [hq.out]
   go_wp2_with fail
   refine (fail_calls 6 (w0 := w0) (T := T) (s := s) (n := n) ?h1 ?h2).mono ?_
   case h1 => repeat (first | exact h'.out | refine PAt.drewN ?_ _ | refine PAt.drew ?_ | refine PAt.alloc ?_ _)
   case h2 => repeat (first | exact hB'.out | refine Bel.drewN ?_ _ | refine Bel.drew ?_ | refine Bel.alloc ?_ _)
   rintro e w1 ⟨rfl, ⟨m3, rfl⟩⟩
   go_wp2
   refine ⟨rfl, ?_⟩
   rw [hr.out]
   exact ⟨rfl, (by repeat (first | exact Fr.refl _ _ | refine Fr.drewN ?_ _ | refine Fr.drew ?_ | refine Fr.alloc ?_ _ | refine Fr.set ?_ _ (by exact Or.inl rfl) _))⟩
 · obtain ⟨t, ht⟩ : ∃ t, T[n]? = some t := by
    cases ht : T[n]? with
    | none => rw [show kindT T n = 0 by unfold kindT; rw [ht], h0] at hq; simp at hq
    | some t => exact ⟨t, rfl⟩
   have hr := Aside0.mk (show takeP T s ks n = .ok (tokS s t, n + 1) by unfold takeP textT; rw [hq, ht]; rfl)
   have hq := Aside0.mk hq
   have ht := Aside0.mk ht
   have h' := Aside0.mk h
   have hB' := Aside0.mk hB
   clear h hB
   go_enter Tryd.func81, Tryd.ntmps81
   go_wp2_with fail
   refine (kind_calls h'.out hB'.out).mono ?_; rintro e w1 ⟨rfl, hd1⟩
   go_wp2_with fail
   refine (contains_u8 (kindT T n) (C_drawn hk hd1)).mono ?_; rintro e w2 ⟨rfl, hd2⟩
   rw [hq.out]
   have h2 := Aside0.mk ((h'.out.drawn hd1).drawn hd2)
   have hB2 := Aside0.mk (bel_drawn (bel_drawn hB'.out hd1) hd2)
   have hF2 := Aside0.mk (((Fr.refl (fun k => k = g) w).drawn hd1).drawn hd2)
   obtain ⟨ad, c', c0, c1, c2, f2, hm, hc, hl, d0, d1, d2, t0, t1, t2⟩ := h2.out.tok hB2.out hT t ht.out
   clear h' hB' hd1 hd2 hk
   have k0 := cell_alloc c0
   have k1 := cell_alloc c1
   have k2 := cell_alloc c2
   have e2 := frozen_past h2.out.lt f2
   have j0 := cell_alloc d0
   have j1 := cell_alloc d1
   have j2 := cell_alloc d2
   go_wp2
   go_region
   all_goals go_wp2
   refine wp_world (fun w3 => PAt w0 T s w3 g (n + 1) ∧ Fr (fun k => k = g) w w3 ∧ w3.heap[w2.heap.size]? = some (.cells #[.int .u8 t.kind, .int .i64 t.lo, .int .i64 t.hi] 72 (0, 0))) ⟨(by repeat (with_reducible first | exact h2.out | refine PAt.to (n := n) ?_ _ _ (by omega) (by omega) | refine PAt.drewN ?_ _ | refine PAt.drew ?_ | refine PAt.alloc ?_ _)), (by repeat (first | (with_reducible first | exact hF2.out | refine Fr.drewN ?_ _ | refine Fr.drew ?_ | refine Fr.alloc ?_ _) | refine Fr.set ?_ _ (by exact Or.inl rfl) _)), ?_⟩ ?_
   · repeat (first | exact heap_alloc_new w2 _ | refine blk_drew ?_ | refine blk_drewN ?_ _ | refine blk_far ?_ (Nat.ne_of_gt h2.out.lt))
   rintro w3 ⟨h3, hF3, hb3⟩
   obtain ⟨A3, c3, c0', _⟩ := h3.cells
   have e1 : w3.cell? ⟨w2.heap.size, 1, none⟩ = some (.int .i64 t.lo) := (blk_cell hb3 1).trans rfl
   have e3 : w3.cell? ⟨w2.heap.size, 2, none⟩ = some (.int .i64 t.hi) := (blk_cell hb3 2).trans rfl
   have h3 := Aside0.mk h3
   have hF3 := Aside0.mk hF3
   clear hb3 k0 k1 k2 e2 j0 j1 j2 c0 c1 c2 d0 d1 d2 f2
   repeat (go_quiet (fail); try go_wp2)
   go_ret
   rw [hr.out]
   exact ⟨⟨_, rfl, rfl⟩, (by repeat (first | exact h3.out | refine PAt.drewN ?_ _ | refine PAt.drew ?_)), (by repeat (first | exact hF3.out | refine Fr.drewN ?_ _ | refine Fr.drew ?_))⟩
end Go.Proofs.YtfhpecgknmfnnaaDoor.M
end
section
namespace Go.Proofs.YtfhpecgknmfnnaaDoor.M
open Go.RowKit Go.Proofs.YtfhpecgknmfnnaaDoorW.PrintWords Go.Proofs.YtfhpecgknmfnnaaDoorW.PrintMore
attribute [local go_sem] max2_int min2_int max_two min_two
def needP (T : List Tok) (s : ByteArray) (x : ByteArray) (n : Nat) : PR Unit := if isT T s n x then .ok ((), n + 1) else .error (posOf T s n, 6)
theorem isT_lt {T : List Tok} {s : ByteArray} {n : Nat} {x : ByteArray} (h : isT T s n x = true) : n < T.length := by
 unfold isT at h
 cases ht : T[n]? with
 | none => rw [ht] at h; simp at h
 | some t => exact (List.getElem?_eq_some_iff.1 ht).1
set_option maxHeartbeats 4000000 in
theorem need_calls {w0 : World} {T : List Tok} {s : ByteArray} {w : World} {g n : Nat} (x : ByteArray) (h : PAt w0 T s w g n) (hB : Bel w0 w) (hT : TokOk s T) :
 Calls Tryd.prog 62 #[.pointer (some ⟨g, 0, none⟩), .string x] w (PPost w0 T s g (· = g) w (fun _ v _ => v = .tuple #[]) (needP T s x n)) := by
 have h' := Aside0.mk h
 have hB' := Aside0.mk hB
 have hn := h.max
 cases hq : isT T s n x
 · have hr := Aside0.mk (show needP T s x n = .error (posOf T s n, 6) by unfold needP; rw [hq]; rfl)
   replace hq := Aside0.mk hq
   clear h hB
   go_enter Tryd.func62, Tryd.ntmps62
   go_wp2_with fail
   refine (is_calls 0 n x (by omega) h'.out hB'.out hT (by omega)).mono ?_; rintro e w1 ⟨rfl, hd1⟩
   rw [hq.out]
   go_wp2_with fail
   refine (fail_calls 6 (h'.out.drawn hd1) (bel_drawn hB'.out hd1)).mono ?_; rintro e w2 ⟨rfl, hd2⟩
   go_wp2
   refine ⟨rfl, ?_⟩
   rw [hr.out]
   exact ⟨rfl, ((Fr.refl _ _).drawn hd1).drawn hd2⟩
 · have hl := isT_lt hq
   have hr := Aside0.mk (show needP T s x n = .ok ((), n + 1) by unfold needP; rw [hq]; rfl)
   replace hq := Aside0.mk hq
   clear h hB
   go_enter Tryd.func62, Tryd.ntmps62
   go_wp2_with fail
   refine (is_calls 0 n x (by omega) h'.out hB'.out hT (by omega)).mono ?_; rintro e w1 ⟨rfl, hd1⟩
   rw [hq.out]
   have h1 := Aside0.mk (h'.out.drawn hd1)
   have hF1 := Aside0.mk ((Fr.refl (fun k => k = g) w).drawn hd1)
   obtain ⟨A, c, c0, c1, c2, f2, hm, _, _⟩ := h1.out.cells
   clear hd1 h' hB'
   go_wp2
   go_end0
   rw [hr.out]
   exact ⟨⟨_, rfl, rfl⟩, h1.out.to _ _ (by omega) (by omega), hF1.out.set _ (by exact Or.inl rfl) _⟩
theorem ints_new {w : World} {b : Nat} {k : IntKind} {t : TypeId} (xs : List Int) (hl : xs.length ≤ 9223372036854775807) (hb : w.heap[b]? = some (.cells (xs.map (Value.int k)).toArray t (0, 0))) : Kd.C (Kd.int k) w (some ⟨b, 0, none⟩) xs.length xs := by
 refine ⟨rfl, hl, fun _ => ⟨_, rfl, fun j p hj => ⟨[.int k p], rfl, rfl, fun i u hu => ?_⟩⟩⟩
 obtain ⟨rfl, rfl⟩ : i = 0 ∧ u = .int k p := by
  cases i with
  | zero => exact ⟨rfl, by simpa using hu.symm⟩
  | succ i => simp at hu
 rw [add_plain, show j * (Kd.int k).sz + 0 = j by rw [show (Kd.int k).sz = 1 from rfl]; omega, blk_cell hb]
 simp [hj]
def termP (T : List Tok) (s : ByteArray) (n : Nat) : PR Term := match takeP T s [1, 2, 3] n with
 | .error p => .error p
 | .ok (x, m) => .ok (if kindT T n == 2 then ⟨x, Val.z⟩ else ⟨noStr, (readV x).1⟩, m)
abbrev termV (t : Term) : Value := .agg #[.string t.var, .string t.val.sym, .int .i64 t.val.num]
set_option maxHeartbeats 4000000 in
theorem term_calls {w0 : World} {T : List Tok} {s : ByteArray} {w : World} {g n : Nat} (h : PAt w0 T s w g n) (hB : Bel w0 w) (hT : TokOk s T) :
 Calls Tryd.prog 83 #[.pointer (some ⟨g, 0, none⟩)] w (PPost w0 T s g (· = g) w (fun t v _ => v = termV t) (termP T s n)) := by
 have h' := Aside0.mk h
 have hB' := Aside0.mk hB
 clear h hB
 go_enter Tryd.func83, Tryd.ntmps83
 go_wp2_with fail
 refine (kind_calls (w0 := w0) (T := T) (s := s) (n := n) (h'.out.alloc _) (Bel.alloc hB'.out _)).mono ?_; rintro e w1 ⟨rfl, hd1⟩
 go_wp2_with fail
 have h1 := Aside0.mk ((h'.out.alloc (.cells #[.string ⟨#[]⟩, .string ⟨#[]⟩, .int .i64 0] 25)).drawn hd1)
 have hB1 := Aside0.mk (bel_drawn (Bel.alloc hB'.out (.cells #[.string ⟨#[]⟩, .string ⟨#[]⟩, .int .i64 0] 25)) hd1)
 have hF1 := Aside0.mk (((Fr.refl (fun k => k = g) w).alloc (.cells #[.string ⟨#[]⟩, .string ⟨#[]⟩, .int .i64 0] 25)).drawn hd1)
 have hb1 : w1.heap[w.heap.size]? = some (.cells #[.string ⟨#[]⟩, .string ⟨#[]⟩, .int .i64 0] 25 (0, 0)) := by
  obtain ⟨⟨m, rfl⟩⟩ := hd1
  exact heap_alloc_new w _
 have hgw := h'.out.lt
 clear hd1 h' hB'
 refine (take_calls (w0 := w0) (T := T) (s := s) (n := n) (ks := [1, 2, 3]) rfl (ints_new [1, 2, 3] (by simp) (heap_alloc_new w1 _)) (h1.out.alloc _) (Bel.alloc hB1.out _) hT).mono ?_
 intro e w2 hp
 obtain ⟨r, hr⟩ : ∃ r, r = takeP T s [1, 2, 3] n := ⟨_, rfl⟩
 rw [← hr] at hp
 cases r with
 | error p =>
   obtain ⟨rfl, hF2⟩ := hp
   have hE := Aside0.mk (show termP T s n = .error p by unfold termP; rw [← hr])
   clear hr
   go_wp2
   refine ⟨rfl, ?_⟩
   rw [hE.out]
   exact ⟨rfl, (hF1.out.alloc _).trans hF2⟩
 | ok r =>
   obtain ⟨x, m⟩ := r
   obtain ⟨⟨v, rfl, rfl⟩, h2, hF2⟩ := hp
   have hE := Aside0.mk (show termP T s n = .ok (if kindT T n == 2 then ⟨x, Val.z⟩ else ⟨noStr, (readV x).1⟩, m) by unfold termP; rw [← hr])
   have hb2 : w2.heap[w.heap.size]? = some (.cells #[.string ⟨#[]⟩, .string ⟨#[]⟩, .int .i64 0] 25 (0, 0)) := hF2.blk (blk_alloc hb1 _) (Nat.ne_of_gt hgw)
   have hz : w.heap.size < w2.heap.size := blk_lt hb2
   have h2 := Aside0.mk h2
   have hF2 := Aside0.mk ((hF1.out.alloc _).trans hF2)
   clear hr hF1 hB1 h1 hb1
   have c0 : w2.cell? ⟨w.heap.size, 0, none⟩ = some (.string ⟨#[]⟩) := (blk_cell hb2 0).trans rfl
   have c1 : w2.cell? ⟨w.heap.size, 1, none⟩ = some (.string ⟨#[]⟩) := (blk_cell hb2 1).trans rfl
   have c2 : w2.cell? ⟨w.heap.size, 2, none⟩ = some (.int .i64 0) := (blk_cell hb2 2).trans rfl
   have f0 : w2.frozen? ⟨w.heap.size, 0, none⟩ = false := blk_frozen hb2 0
   have f1 : w2.frozen? ⟨w.heap.size, 1, none⟩ = false := blk_frozen hb2 1
   have f2 : w2.frozen? ⟨w.heap.size, 2, none⟩ = false := blk_frozen hb2 2
   cases hk : kindT T n == 2
   · rw [hk] at hE
     have hv := Aside0.mk hE.out
     go_wp2_with fail
     refine (read_calls x _).mono ?_; rintro e w3 ⟨rfl, hb⟩
     have hF3 : Fr (fun k => k = g) w w3 := hF2.out.trans (Fr.of_below hb)
     have hb3 : w3.heap[w.heap.size]? = some (.cells #[.string ⟨#[]⟩, .string ⟨#[]⟩, .int .i64 0] 25 (0, 0)) := (hb.block _ hz).trans hb2
     have hz3 : w.heap.size < w3.heap.size := blk_lt hb3
     have h3 := Aside0.mk (h2.out.below hb)
     have hF3 := Aside0.mk hF3
     have c0 : w3.cell? ⟨w.heap.size, 0, none⟩ = some (.string ⟨#[]⟩) := (blk_cell hb3 0).trans rfl
     have c1 : w3.cell? ⟨w.heap.size, 1, none⟩ = some (.string ⟨#[]⟩) := (blk_cell hb3 1).trans rfl
     have c2 : w3.cell? ⟨w.heap.size, 2, none⟩ = some (.int .i64 0) := (blk_cell hb3 2).trans rfl
     have f0 : w3.frozen? ⟨w.heap.size, 0, none⟩ = false := blk_frozen hb3 0
     have f1 : w3.frozen? ⟨w.heap.size, 1, none⟩ = false := blk_frozen hb3 1
     have f2 : w3.frozen? ⟨w.heap.size, 2, none⟩ = false := blk_frozen hb3 2
     clear hb hb3 hb2 hz hE
     generalize (readV x).1 = val at hv
     obtain ⟨sym, num⟩ := val
     go_wp2
     refine bodyPost_ret (v := termV ⟨noStr, ⟨sym, num⟩⟩) (by simp [results, Tryd.results83, go_sem, termV, c0, c1, c2, f0, f1, f2, hz3]) rfl ?_
     rw [hv.out]
     exact ⟨⟨_, rfl, rfl⟩, (by repeat (first | (with_reducible first | exact h3.out | refine PAt.drewN ?_ _ | refine PAt.drew ?_ | refine PAt.alloc ?_ _) | refine PAt.far ?_ (by simp; omega))), (by repeat (first | (with_reducible first | exact hF3.out | refine Fr.drewN ?_ _ | refine Fr.drew ?_ | refine Fr.alloc ?_ _) | refine Fr.set ?_ _ (by exact Or.inr (Nat.le_refl _)) _))⟩
   · rw [hk] at hE
     go_wp2
     refine bodyPost_ret (v := termV ⟨x, Val.z⟩) (by simp [results, Tryd.results83, go_sem, termV, Val.z, c0, c1, c2, f0, f1, f2, hz]) rfl ?_
     rw [hE.out]
     exact ⟨⟨_, rfl, rfl⟩, (by repeat (first | (with_reducible first | exact h2.out | refine PAt.drewN ?_ _ | refine PAt.drew ?_ | refine PAt.alloc ?_ _) | refine PAt.far ?_ (by simp; omega))), (by repeat (first | (with_reducible first | exact hF2.out | refine Fr.drewN ?_ _ | refine Fr.drew ?_ | refine Fr.alloc ?_ _) | refine Fr.set ?_ _ (by exact Or.inr (Nat.le_refl _)) _))⟩
end Go.Proofs.YtfhpecgknmfnnaaDoor.M
end
section
namespace Go.Proofs.YtfhpecgknmfnnaaDoor.M
open Go.RowKit Go.Proofs.YtfhpecgknmfnnaaDoorW.PrintWords Go.Proofs.YtfhpecgknmfnnaaDoorW.PrintMore
attribute [local go_sem] max2_int min2_int max_two min_two
abbrev comma : ByteArray := ⟨#[44]⟩
def tailP {α : Type} (T : List Tok) (s : ByteArray) (one : Nat → PR α) : Nat → Nat → PR (List α)
 | 0, m => if isT T s m comma then .error (posOf T s m, 2) else .ok ([], m)
 | r + 1, m => if isT T s m comma then match one (m + 1) with
     | .error p => .error p
     | .ok (a, k) => match tailP T s one r k with
       | .error p => .error p
       | .ok (xs, j) => .ok (a :: xs, j)
   else .ok ([], m)
def addL {α : Type} (acc : List α) : PR (List α) → PR (List α)
 | .error p => .error p
 | .ok (xs, m) => .ok (acc ++ xs, m)
def listP {α : Type} (T : List Tok) (s : ByteArray) (one : Nat → PR α) (most n : Nat) : PR (List α) := match one n with
 | .error p => .error p
 | .ok (a, m) => addL [a] (tailP T s one (most - 1) m)
theorem tail_step {α : Type} {T : List Tok} {s : ByteArray} {one : Nat → PR α} {r m k : Nat} {a : α} (acc : List α) (hc : isT T s m comma = true) (ho : one (m + 1) = .ok (a, k)) :
 addL acc (tailP T s one (r + 1) m) = addL (acc ++ [a]) (tailP T s one r k) := by
 simp only [tailP, hc, if_true, ho]
 cases tailP T s one r k with
 | error p => rfl
 | ok x => simp [addL]
theorem tail_stop {α : Type} {T : List Tok} {s : ByteArray} {one : Nat → PR α} {r m : Nat} {p : Int × Int} (acc : List α) (hc : isT T s m comma = true) (ho : one (m + 1) = .error p) :
 addL acc (tailP T s one (r + 1) m) = .error p := by
 simp only [tailP, hc, if_true, ho]; rfl
theorem tail_end {α : Type} {T : List Tok} {s : ByteArray} {one : Nat → PR α} {r m : Nat} (acc : List α) (hc : isT T s m comma = false) : addL acc (tailP T s one r m) = .ok (acc, m) := by
 cases r <;> simp [tailP, hc, addL]
theorem tail_full {α : Type} {T : List Tok} {s : ByteArray} {one : Nat → PR α} {m : Nat} (acc : List α) (hc : isT T s m comma = true) : addL acc (tailP T s one 0 m) = .error (posOf T s m, 2) := by
 simp [tailP, hc, addL]
def OPost {α : Type} (w0 : World) (T : List Tok) (s : ByteArray) (g : Nat) (S : Nat → Prop) (w : World) (I : α → World → Prop) (r : PR α) (e : Ending) (w' : World) : Prop := match r with
 | .ok (a, n') => e = .returned (.tuple #[]) ∧ PAt w0 T s w' g n' ∧ I a w' ∧ Fr S w w'
 | .error (p, x) => e = stopE p x ∧ Fr S w w'
set_option maxHeartbeats 4000000 in
set_option maxRecDepth 100000 in
theorem list_calls {α : Type} {w0 : World} {T : List Tok} {s : ByteArray} {w : World} {g n : Nat} {S : Nat → Prop} (I : List α → World → Prop) (one : Nat → PR α) (K : FuncId) (caps : Array Value) (most : Nat) (hmost : 1 ≤ most ∧ most ≤ 100) (acc0 : List α)
 (hE : ∀ (args : Array Value) (w : World), (callFunc K args).run Tryd.prog w = .ok (.enter K args) w) (hS : S g) (hS0 : ∀ k, S k → Free w0 k)
 (h1 : ∀ acc n w, acc.length < acc0.length + most → PAt w0 T s w g n → Bel w0 w → I acc w → Calls Tryd.prog K caps w (OPost w0 T s g S w (fun a w' => I (acc ++ [a]) w') (one n)))
 (hI1 : ∀ acc w w', I acc w → Drawn0 w w' → I acc w') (hI2 : ∀ acc w x, I acc w → I acc (w.setCell ⟨g, 2, none⟩ (.int .i64 x)))
 (h : PAt w0 T s w g n) (hB : Bel w0 w) (hT : TokOk s T) (hI : I acc0 w) :
 Calls Tryd.prog 59 #[.pointer (some ⟨g, 0, none⟩), .int .i64 most, .func (.func K) #[] caps] w (OPost w0 T s g S w I (addL acc0 (listP T s one most n))) := by
 have h' := Aside0.mk h
 have hB' := Aside0.mk hB
 have hI' := Aside0.mk hI
 have h1 := Aside0.mk h1
 have hI1 := Aside0.mk hI1
 have hI2 := Aside0.mk hI2
 clear h hB hI
 go_enter Tryd.func59, Tryd.ntmps59
 go_wp2_with fail
 refine (h1.out acc0 n _ (by omega) h'.out hB'.out hI'.out).mono ?_
 intro e w1 hp
 obtain ⟨r, hr⟩ : ∃ r, r = one n := ⟨_, rfl⟩
 rw [← hr] at hp
 cases r with
 | error p =>
   obtain ⟨rfl, hF1⟩ := hp
   have hR := Aside0.mk (show addL acc0 (listP T s one most n) = .error p by unfold listP; rw [← hr, addL])
   clear hr
   go_wp2
   refine ⟨rfl, ?_⟩
   rw [hR.out]
   exact ⟨rfl, hF1⟩
 | ok r =>
   obtain ⟨a, m⟩ := r
   obtain ⟨rfl, hP1, hI1', hF1⟩ := hp
   obtain ⟨Res, hRes⟩ : ∃ Res, Res = addL acc0 (listP T s one most n) := ⟨_, rfl⟩
   have hR := Aside0.mk (show addL (acc0 ++ [a]) (tailP T s one (most - 1) m) = Res by
    rw [hRes]; unfold listP; rw [← hr]; simp only
    cases tailP T s one (most - 1) m with
    | error p => rfl
    | ok x => simp [addL])
   replace hRes := Aside0.mk hRes
   clear hr h' hI'
   have hP1 := Aside0.mk hP1
   have hI1' := Aside0.mk hI1'
   have hF1 := Aside0.mk hF1
   go_wp2_with fail
   go_loopw [6] (fun v wr => ∃ (r j m : Nat) (acc : List α), v = .int .i64 j ∧ j + r = most ∧ 1 ≤ j ∧ Aside0 (addL acc (tailP T s one r m) = Res ∧ PAt w0 T s wr g m ∧ I acc wr ∧ Fr S w wr ∧ acc.length = acc0.length + j)) (fun v _ => most - (intOf v).toNat)
   case atStart => exact ⟨most - 1, 1, m, _, rfl, by omega, by omega, ⟨hR.out, hP1.out, hI1'.out, hF1.out, by simp⟩⟩
   case round =>
    clear hR hP1 hI1' hF1
    obtain ⟨r, j, m, acc, rfl, hj, hj1, hrel⟩ := hrel
    obtain ⟨⟨hR, hP, hI, hF, hlen⟩⟩ := hrel
    have hlen := Aside0.mk hlen
    have hB := Aside0.mk (hB'.out.fr hF hS0)
    have hmx := hP.max
    cases hc : isT T s m comma
    · have hR2 := Aside0.mk (hR.symm.trans (tail_end acc hc))
      replace hc := Aside0.mk hc
      replace hP := Aside0.mk hP
      replace hI := Aside0.mk hI
      replace hF := Aside0.mk hF
      clear hR
      go_wp2_with fail
      refine (is_calls 0 m comma (by omega) hP.out hB.out hT (by omega)).mono ?_; rintro e w3 ⟨rfl, hd3⟩
      rw [hc.out]
      go_wp2_with fail
      go_end0
      rw [← hRes.out, hR2.out]
      exact ⟨rfl, hP.out.drawn hd3, hI1.out _ _ _ hI.out hd3, hF.out.drawn hd3⟩
    · have hl := isT_lt hc
      cases r with
      | zero =>
        have hR2 := Aside0.mk (hR.symm.trans (tail_full acc hc))
        obtain rfl : j = most := by omega
        replace hc := Aside0.mk hc
        replace hP := Aside0.mk hP
        replace hF := Aside0.mk hF
        clear hR hI
        go_wp2_with fail
        refine (is_calls 0 m comma (by omega) hP.out hB.out hT (by omega)).mono ?_; rintro e w3 ⟨rfl, hd3⟩
        rw [hc.out]
        go_wp2_with fail
        refine (fail_calls 2 (hP.out.drawn hd3) (bel_drawn hB.out hd3)).mono ?_; rintro e w4 ⟨rfl, hd4⟩
        go_wp2
        refine ⟨rfl, ?_⟩
        rw [← hRes.out, hR2.out]
        exact ⟨rfl, (hF.out.drawn hd3).drawn hd4⟩
      | succ r =>
        have hne : ((j : Int) == (most : Int)) = false := by rw [beq_eq_false_iff_ne]; omega
        have hc' := Aside0.mk hc
        replace hP := Aside0.mk hP
        replace hF := Aside0.mk hF
        replace hI := Aside0.mk hI
        replace hR := Aside0.mk hR
        clear hc
        go_wp2_with fail
        refine (is_calls 0 m comma (by omega) hP.out hB.out hT (by omega)).mono ?_; rintro e w3 ⟨rfl, hd3⟩
        rw [hc'.out]
        have hP3 := Aside0.mk (hP.out.drawn hd3)
        have hI3 := Aside0.mk (hI1.out _ _ _ hI.out hd3)
        have hF3 := Aside0.mk (hF.out.drawn hd3)
        obtain ⟨A, c, c0, c1, c2, f2, hm, _, _⟩ := hP3.out.cells
        clear hd3 hP hI hF
        go_wp2_with fail
        have hP4 := Aside0.mk (hP3.out.to (m + 1) ((m : Int) + 1) (by omega) (by omega))
        have hI4 := Aside0.mk (hI2.out acc _ ((m : Int) + 1) hI3.out)
        have hF4 := Aside0.mk (hF3.out.set ⟨g, 2, none⟩ (.inl hS) (.int .i64 ((m : Int) + 1)))
        refine (h1.out acc (m + 1) _ (by have := hlen.out; omega) hP4.out (hB'.out.fr hF4.out hS0) hI4.out).mono ?_
        intro e w5 hp
        obtain ⟨q, hq⟩ : ∃ q, q = one (m + 1) := ⟨_, rfl⟩
        rw [← hq] at hp
        cases q with
        | error p =>
          obtain ⟨rfl, hF5⟩ := hp
          have hR2 := Aside0.mk (hR.out.symm.trans (tail_stop acc hc'.out hq.symm))
          clear hq
          go_wp2
          refine ⟨rfl, ?_⟩
          rw [← hRes.out, hR2.out]
          exact ⟨rfl, hF4.out.trans hF5⟩
        | ok q =>
          obtain ⟨b, k⟩ := q
          obtain ⟨rfl, hP5, hI5, hF5⟩ := hp
          have hR2 := Aside0.mk ((tail_step acc hc'.out hq.symm).symm.trans hR.out)
          replace hP5 := Aside0.mk hP5
          replace hI5 := Aside0.mk hI5
          replace hF5 := Aside0.mk (hF4.out.trans hF5)
          clear hq hP4 hI4 hF4 hP3 hI3 hF3 c0 c1 c2 f2 hR
          go_wp2_with fail
          go_roundw
          case rel => exact ⟨r, j + 1, k, _, by go_num, by omega, by omega, ⟨hR2.out, hP5.out, hI5.out, hF5.out, by have := hlen.out; simp; omega⟩⟩
          case measure => simp [intOf]; omega
end Go.Proofs.YtfhpecgknmfnnaaDoor.M
end
section
namespace Go.Proofs.YtfhpecgknmfnnaaDoor.M
open Go.RowKit Go.Proofs.YtfhpecgknmfnnaaDoorW.PrintWords Go.Proofs.YtfhpecgknmfnnaaDoorW.PrintMore Go.Proofs.YtfhpecgknmfnnaaDoorW.PrintLast
attribute [local go_sem] max2_int min2_int max_two min_two
def litC (k : Int) (who : Term) (pred : ByteArray) (v : Value) (rest : List Value) : Array Value :=
 (.int .u8 k :: .string who.var :: .string who.val.sym :: .int .i64 who.val.num :: .string pred :: v :: rest).toArray
theorem litC_args {k : Int} {who : Term} {pred : ByteArray} {v : Value} {rest : List Value} {ty : TypeId} {w : World} {b : Nat} (u : Value) (h : w.heap[b]? = some (.cells (litC k who pred v rest) ty (0, 0))) :
 (w.setCell ⟨b, 5, none⟩ u).heap[b]? = some (.cells (litC k who pred u rest) ty (0, 0)) := by
 have h2 := blk_set h 5 u
 rwa [show (litC k who pred v rest).setIfInBounds 5 u = litC k who pred u rest by simp [litC]] at h2
theorem kTerm_mkM (w : World) (base : Nat) (ok : Nat → Prop) (t : Term) : kTerm.M w base ok t [.string t.var, .string t.val.sym, .int .i64 t.val.num] :=
 ⟨[.string t.var], [.string t.val.sym, .int .i64 t.val.num], rfl, rfl, ⟨[.string t.val.sym], [.int .i64 t.val.num], rfl, rfl, rfl⟩⟩
theorem info_term : (Tryd.prog.info? 25).map (fun i => (i.zero, i.size, i.bytes)) = some (some (.agg #[.string ⟨#[]⟩, .string ⟨#[]⟩, .int .i64 0]), 3, 40) := by kernel_rfl
def AtomI (g b bl bp B : Nat) (k : Int) (who : Term) (pred : ByteArray) (rest : List Value) (ty : TypeId) (acc : List Term) (w : World) : Prop :=
 ∃ v, w.heap[b]? = some (.cells (litC k who pred v rest) ty (0, 0)) ∧ w.heap[bl]? = some (.cells #[.pointer (some ⟨b, 0, none⟩)] 100 (0, 0)) ∧ w.heap[bp]? = some (.cells #[.pointer (some ⟨g, 0, none⟩)] 98 (0, 0)) ∧
   Kd.R kTerm 25 w B (fun q => B ≤ q) v acc ∧ B ≤ w.heap.size
theorem AtomI.fr {g b bl bp B : Nat} {k : Int} {who : Term} {pred : ByteArray} {rest : List Value} {ty : TypeId} {acc : List Term} {w w' : World} {S : Nat → Prop} (h : AtomI g b bl bp B k who pred rest ty acc w) (f : Fr S w w') (h1 : ¬ S b) (h2 : ¬ S bl) (h3 : ¬ S bp) (h4 : ∀ q, B ≤ q → ¬ S q) :
 AtomI g b bl bp B k who pred rest ty acc w' := by
 obtain ⟨v, hL, hl, hp, hR, hB⟩ := h
 exact ⟨v, f.blk hL h1, f.blk hl h2, f.blk hp h3, f.R hR h4, Nat.le_trans hB f.size⟩
def atomS (g b B : Nat) (q : Nat) : Prop := q = g ∨ q = b ∨ B ≤ q
def rAtom1.T : Bool × List (List Nat × List Nat) := (true, [([], []), ([], []), ([1], [1]), ([2], [2]), ([3], [3]), ([], []), ([5], [5]), ([6], [6]), ([4, 7, 6], [4, 7]), ([0, 0, 1, 2, 3, 4, 5, 6, 7, 8], [0]), ([9, 0, 1, 2, 3, 4, 5, 6, 7, 8], [9]), ([10, 8, 8, 0, 1, 2, 3, 4, 5, 6, 7, 8], [8, 10])])
def rAtom1.B : List Nat := [0, 0, 2, 6, 14, 0, 32, 96, 254, 511, 1023, 2047]
theorem rAtom1.tab : rtab .any (opsOf Tryd.f82 0) = rAtom1.T := by kernel_rfl
theorem rAtom1.bits : waitsOk rAtom1.T.2 rAtom1.B = true := by kernel_rfl
theorem goesP {P : Program} {ops : Array Oper} {Q : Exit → Act → World → Prop} {oi : Oper} {N : Option Tmp} {a : Act} {w : World} {K : Act → World → Prop} {f : FuncId} {fn : Func} {xs : Array Operand} {ts : Array TypeId} (hf : P.funcs[f]? = some fn) (hname : (fn.name == "runtime.NumGoroutine") = false) (hb : fn.body.isSome = true) (args : Array Value)
 (hw : Region.wanted oi (yielded ops a.tmps) = true) (hN : oi.dst = N) (hop : oi.op = .call { callee := .value (.func f), args := xs, argTypes := ts }) (hargs : xs.map a.eval = args)
 (h : Calls P f args w fun e w' => (∃ v, e = .returned v ∧ K (a.put N v) w') ∨ (∃ c, e = .panicked c ∧ Q (.panic c) a w')) : if Region.wanted oi (yielded ops a.tmps) = true then Oper.wp P oi a w K Q else K (a.put N undef) w := by
 have he := enters_ hf hname hb args w
 have hrun : (execOp a.eval oi).run P w = .ok (.enter f args) w := by
  unfold execOp
  simp [hop, resolve, Deferred.ofValue, invoke, Act.eval, hargs, he]
 rw [if_pos hw]
 subst hN
 unfold Oper.wp
 rw [hrun, Oper.upon_enter]
 refine h.mono fun e w'' hh => ?_
 rcases hh with ⟨v, rfl, hk⟩ | ⟨c, rfl, hk⟩
 · exact hk
 · exact hk
set_option maxHeartbeats 4000000 in
set_option maxRecDepth 100000 in
theorem atom1_calls {w0 : World} {T : List Tok} {s : ByteArray} {g b bl bp B : Nat} {k : Int} {who : Term} {pred : ByteArray} {rest : List Value} {ty : TypeId} (hT : TokOk s T) (hgb : g ≠ b) (hlg : bl ≠ g) (hpg : bp ≠ g) (hlb : bl ≠ b) (hpb : bp ≠ b) (hgB : g < B) (hbB : b < B) (hlB : bl < B) (hpB : bp < B)
 (acc : List Term) (n : Nat) (w : World) (hacc : acc.length ≤ 4096) (h : PAt w0 T s w g n) (hB : Bel w0 w) (hI : AtomI g b bl bp B k who pred rest ty acc w) :
 Calls Tryd.prog 82 #[.pointer (some ⟨bl, 0, none⟩), .pointer (some ⟨bp, 0, none⟩)] w (OPost w0 T s g (atomS g b B) w (fun a w' => AtomI g b bl bp B k who pred rest ty (acc ++ [a]) w') (termP T s n)) := by
 obtain ⟨v, hL, hl, hp, hR, hBw⟩ := hI
 have c5 : w.cell? ⟨b, 5, none⟩ = some v := (blk_cell hL 5).trans rfl
 have cl : w.cell? ⟨bl, 0, none⟩ = some (.pointer (some ⟨b, 0, none⟩)) := (blk_cell hl 0).trans rfl
 have cp : w.cell? ⟨bp, 0, none⟩ = some (.pointer (some ⟨g, 0, none⟩)) := (blk_cell hp 0).trans rfl
 have h' := Aside0.mk h
 have hB' := Aside0.mk hB
 have hL := Aside0.mk hL
 have hl := Aside0.mk hl
 have hp := Aside0.mk hp
 have hR := Aside0.mk hR
 clear h hB
 obtain ⟨r, hr⟩ : ∃ r, r = termP T s n := ⟨_, rfl⟩
 cases r with
 | error p =>
   replace hr := Aside0.mk hr
   go_enter Tryd.func82, Tryd.ntmps82
   go_wp2_with fail
   refine start_ (n := 12) (S := fun w' => w'.cell? ⟨bl, 0, none⟩ = some (.pointer (some ⟨b, 0, none⟩)) ∧ w'.cell? ⟨bp, 0, none⟩ = some (.pointer (some ⟨g, 0, none⟩)) ∧ w'.cell? ⟨b, 5, none⟩ = some v) (ds := [11]) #[false,false,false,false,false,false,false,false,false,false,false,false] rfl rfl rfl ⟨cl, cp, c5⟩ (fun hS_ => ?_)
   refine with_tabW rAtom1.tab rAtom1.bits (fun HT_ HW_ => ?_)
   refine take_ (i := 0) (N := some 2) (v := ?_) (a' := ?_) #[true,false,false,false,false,false,false,false,false,false,false,false] rfl rfl (take_ofW HT_.out HW_.out (by kernel_rfl)) (fun _ _ _ h => h) (Or.inl ⟨by rfl, ?_⟩) hS_ ?_ ?_
   rotate_left; · (rintro w' ⟨s0, s1, s2⟩; go_simp; with_reducible rfl)
   rotate_left; · (simp only [Act.put, List.setIfInBounds_toArray, List.set_cons_zero, List.set_cons_succ]; rfl)
   refine take_ (i := 1) (N := some 3) (v := ?_) (a' := ?_) #[true,true,false,false,false,false,false,false,false,false,false,false] rfl rfl (take_ofW HT_.out HW_.out (by kernel_rfl)) (fun _ _ _ h => h) (Or.inl ⟨by rfl, ?_⟩) hS_ ?_ ?_
   rotate_left; · (rintro w' ⟨s0, s1, s2⟩; go_simp; with_reducible rfl)
   rotate_left; · (simp only [Act.put, List.setIfInBounds_toArray, List.set_cons_zero, List.set_cons_succ]; rfl)
   refine pure_ (i := 2) (N := some 4) (v := ?_) (a' := ?_) #[true,true,true,false,false,false,false,false,false,false,false,false] rfl rfl (any_of HT_.out (by kernel_rfl)) (fun _ _ _ h => h) (Or.inl ⟨by rfl, ?_⟩) ?_ ?_
   rotate_left; · (intro w'; go_simp; with_reducible rfl)
   rotate_left; · (simp only [Act.put, List.setIfInBounds_toArray, List.set_cons_zero, List.set_cons_succ]; rfl)
   refine pure_ (i := 3) (N := some 5) (v := ?_) (a' := ?_) #[true,true,true,true,false,false,false,false,false,false,false,false] rfl rfl (any_of HT_.out (by kernel_rfl)) (fun _ _ _ h => h) (Or.inl ⟨by rfl, ?_⟩) ?_ ?_
   rotate_left; · (intro w'; go_simp; with_reducible rfl)
   rotate_left; · (simp only [Act.put, List.setIfInBounds_toArray, List.set_cons_zero, List.set_cons_succ]; rfl)
   refine take_ (i := 4) (N := some 6) (v := ?_) (a' := ?_) #[true,true,true,true,true,false,false,false,false,false,false,false] rfl rfl (take_ofW HT_.out HW_.out (by kernel_rfl)) (fun _ _ _ h => h) (Or.inl ⟨by rfl, ?_⟩) hS_ ?_ ?_
   rotate_left; · (rintro w' ⟨s0, s1, s2⟩; go_simp; with_reducible rfl)
   rotate_left; · (simp only [Act.put, List.setIfInBounds_toArray, List.set_cons_zero, List.set_cons_succ]; rfl)
   refine take_ (i := 5) (N := some 7) (v := ?_) (a' := ?_) #[true,true,true,true,true,true,false,false,false,false,false,false] rfl rfl (take_ofW HT_.out HW_.out (by kernel_rfl)) (fun _ _ _ h => h) (Or.inl ⟨by rfl, ?_⟩) hS_ ?_ ?_
   rotate_left; · (rintro w' ⟨s0, s1, s2⟩; go_simp; with_reducible rfl)
   rotate_left; · (simp only [Act.put, List.setIfInBounds_toArray, List.set_cons_zero, List.set_cons_succ]; rfl)
   refine one_ (i := 6) (N := some 8) #[true,true,true,true,true,true,true,false,false,false,false,false] rfl rfl (one_of HT_.out (by kernel_rfl)) (by decide) (fun K hK => ?_)
   refine goesP Tryd.func83 (by kernel_rfl) rfl #[.pointer (some ⟨g, 0, none⟩)] (by rfl) rfl rfl (by simp only [List.map_toArray, List.map_cons, List.map_nil]; rfl) ?_
   refine (term_calls (w0 := w0) (T := T) (s := s) (n := n) h'.out.drew (Bel.drew hB'.out) hT).mono ?_
   rw [← hr.out]
   rintro e w1 ⟨rfl, hF1⟩
   refine .inr ⟨_, rfl, ?_⟩
   refine ⟨rfl, ?_⟩
   rw [← hr.out]
   exact ⟨rfl, (Fr.refl _ w).drew.trans (hF1.mono (fun q hq => Or.inl hq))⟩
 | ok r =>
   obtain ⟨a, m⟩ := r
   replace hr := Aside0.mk hr
   have bk := Aside0.mk (show ∀ w1 w2 : World, Fr (fun q => q = g) w.drew w1 → w1.grownBy w2 v.ownBlock → ∀ x o, w.heap[x]? = some o → x ≠ g → x < B → w2.heap[x]? = some o from
    fun w1 w2 hF hg x o ho hx hxB => (hg.block x (Nat.lt_of_lt_of_le (blk_lt ho) hF.size) (fun e => absurd (hR.out.1 x e.symm) (Nat.not_le.mpr hxB))).trans (hF.blk ho hx))
   go_enter Tryd.func82, Tryd.ntmps82
   go_wp2_with fail
   refine start_ (n := 12) (S := fun w' => w'.cell? ⟨bl, 0, none⟩ = some (.pointer (some ⟨b, 0, none⟩)) ∧ w'.cell? ⟨bp, 0, none⟩ = some (.pointer (some ⟨g, 0, none⟩)) ∧ w'.cell? ⟨b, 5, none⟩ = some v) (ds := [11]) #[false,false,false,false,false,false,false,false,false,false,false,false] rfl rfl rfl ⟨cl, cp, c5⟩ (fun hS_ => ?_)
   refine with_tabW rAtom1.tab rAtom1.bits (fun HT_ HW_ => ?_)
   refine take_ (i := 0) (N := some 2) (v := ?_) (a' := ?_) #[true,false,false,false,false,false,false,false,false,false,false,false] rfl rfl (take_ofW HT_.out HW_.out (by kernel_rfl)) (fun _ _ _ h => h) (Or.inl ⟨by rfl, ?_⟩) hS_ ?_ ?_
   rotate_left; · (rintro w' ⟨s0, s1, s2⟩; go_simp; with_reducible rfl)
   rotate_left; · (simp only [Act.put, List.setIfInBounds_toArray, List.set_cons_zero, List.set_cons_succ]; rfl)
   refine take_ (i := 1) (N := some 3) (v := ?_) (a' := ?_) #[true,true,false,false,false,false,false,false,false,false,false,false] rfl rfl (take_ofW HT_.out HW_.out (by kernel_rfl)) (fun _ _ _ h => h) (Or.inl ⟨by rfl, ?_⟩) hS_ ?_ ?_
   rotate_left; · (rintro w' ⟨s0, s1, s2⟩; go_simp; with_reducible rfl)
   rotate_left; · (simp only [Act.put, List.setIfInBounds_toArray, List.set_cons_zero, List.set_cons_succ]; rfl)
   refine pure_ (i := 2) (N := some 4) (v := ?_) (a' := ?_) #[true,true,true,false,false,false,false,false,false,false,false,false] rfl rfl (any_of HT_.out (by kernel_rfl)) (fun _ _ _ h => h) (Or.inl ⟨by rfl, ?_⟩) ?_ ?_
   rotate_left; · (intro w'; go_simp; with_reducible rfl)
   rotate_left; · (simp only [Act.put, List.setIfInBounds_toArray, List.set_cons_zero, List.set_cons_succ]; rfl)
   refine pure_ (i := 3) (N := some 5) (v := ?_) (a' := ?_) #[true,true,true,true,false,false,false,false,false,false,false,false] rfl rfl (any_of HT_.out (by kernel_rfl)) (fun _ _ _ h => h) (Or.inl ⟨by rfl, ?_⟩) ?_ ?_
   rotate_left; · (intro w'; go_simp; with_reducible rfl)
   rotate_left; · (simp only [Act.put, List.setIfInBounds_toArray, List.set_cons_zero, List.set_cons_succ]; rfl)
   refine take_ (i := 4) (N := some 6) (v := ?_) (a' := ?_) #[true,true,true,true,true,false,false,false,false,false,false,false] rfl rfl (take_ofW HT_.out HW_.out (by kernel_rfl)) (fun _ _ _ h => h) (Or.inl ⟨by rfl, ?_⟩) hS_ ?_ ?_
   rotate_left; · (rintro w' ⟨s0, s1, s2⟩; go_simp; with_reducible rfl)
   rotate_left; · (simp only [Act.put, List.setIfInBounds_toArray, List.set_cons_zero, List.set_cons_succ]; rfl)
   refine take_ (i := 5) (N := some 7) (v := ?_) (a' := ?_) #[true,true,true,true,true,true,false,false,false,false,false,false] rfl rfl (take_ofW HT_.out HW_.out (by kernel_rfl)) (fun _ _ _ h => h) (Or.inl ⟨by rfl, ?_⟩) hS_ ?_ ?_
   rotate_left; · (rintro w' ⟨s0, s1, s2⟩; go_simp; with_reducible rfl)
   rotate_left; · (simp only [Act.put, List.setIfInBounds_toArray, List.set_cons_zero, List.set_cons_succ]; rfl)
   refine one_ (i := 6) (N := some 8) #[true,true,true,true,true,true,true,false,false,false,false,false] rfl rfl (one_of HT_.out (by kernel_rfl)) (by decide) (fun K hK => ?_)
   refine goesP Tryd.func83 (by kernel_rfl) rfl #[.pointer (some ⟨g, 0, none⟩)] (by rfl) rfl rfl (by simp only [List.map_toArray, List.map_cons, List.map_nil]; rfl) ?_
   refine (term_calls (w0 := w0) (T := T) (s := s) (n := n) h'.out.drew (Bel.drew hB'.out) hT).mono ?_
   rw [← hr.out]
   rintro e w1 ⟨⟨v1, rfl, rfl⟩, hP1, hF1⟩
   refine .inl ⟨_, rfl, ?_⟩
   refine hK.out _ _ ⟨hF1.cell (p := ⟨bl, 0, none⟩) cl hlg, hF1.cell (p := ⟨bp, 0, none⟩) cp hpg, hF1.cell (p := ⟨b, 5, none⟩) c5 (Ne.symm hgb)⟩ (fun hS_ => ?_)
   clear hK K
   refine norm_ (a' := ?_) ?_ ?_
   rotate_left; · (show Act.put _ (some 8) _ = _; simp only [Act.put, List.setIfInBounds_toArray, List.set_cons_zero, List.set_cons_succ]; rfl)
   refine one_ (i := 7) (N := some 9) #[true,true,true,true,true,true,true,true,false,false,false,false] rfl rfl (one_of HT_.out (by kernel_rfl)) (by decide) (fun K hK => ?_)
   refine value_ (w1 := ?_) (v := ?_) (by rfl) rfl ?_ ?_
   rotate_left 2; · (go_simp; constructor; rfl; rfl)
   refine hK.out _ _ ⟨cell_alloc hS_.1 _, cell_alloc hS_.2.1 _, cell_alloc hS_.2.2 _⟩ (fun hS_ => ?_)
   clear hK K
   refine norm_ (a' := ?_) ?_ ?_
   rotate_left; · (show Act.put _ (some 9) _ = _; simp only [Act.put, List.setIfInBounds_toArray, List.set_cons_zero, List.set_cons_succ]; rfl)
   refine one_ (i := 8) (N := some 10) #[true,true,true,true,true,true,true,true,true,false,false,false] rfl rfl (one_of HT_.out (by kernel_rfl)) (by decide) (fun K hK => ?_)
   refine Kd.R_append_step kTerm (w0 := w1) B (by rfl) (.tmp 6) (.tmp 9) 26 25 (.agg #[.string ⟨#[]⟩, .string ⟨#[]⟩, .int .i64 0]) 40 (by rfl) Tryd.underlying26 info_term (by rfl) (by decide) (by omega) v acc a [.string a.var, .string a.val.sym, .int .i64 a.val.num] (fun q => B ≤ q) (fun _ => False) (by rfl) (by rfl) (kTerm_mkM _ _ _ a) (fun _ hk => hk.elim) (fun _ hk => Nat.le_trans (Nat.le_trans hBw hF1.size) hk) (hF1.R (Kd.R_drew hR.out) (fun q hq e => by subst e; exact absurd hgB (Nat.not_lt.mpr hq))) (Below.refl _ _) (Nat.le_trans hBw hF1.size) (by omega) ?_
   intro v2 w2 hR2 hB2 hg2 hat2
   obtain ⟨gg, cap, rfl, hgg⟩ := Kd.R_form hR2 (by simp)
   have hb2 := Aside0.mk (bk.out w1 w2 hF1 hg2 b _ hL.out (Ne.symm hgb) hbB)
   have hl2 := Aside0.mk (bk.out w1 w2 hF1 hg2 bl _ hl.out hlg hlB)
   have hp2 := Aside0.mk (bk.out w1 w2 hF1 hg2 bp _ hp.out hpg hpB)
   refine hK.out _ _ ⟨(blk_cell hl2.out 0).trans rfl, (blk_cell hp2.out 0).trans rfl, (blk_cell hb2.out 5).trans rfl⟩ (fun hS_ => ?_)
   clear hK K
   refine norm_ (a' := ?_) ?_ ?_
   rotate_left; · (show Act.put _ (some 10) _ = _; simp only [Act.put, List.setIfInBounds_toArray, List.set_cons_zero, List.set_cons_succ]; rfl)
   refine pure_ (i := 9) (N := some 11) (v := ?_) (a' := ?_) #[true,true,true,true,true,true,true,true,true,true,false,false] rfl rfl (any_of HT_.out (by kernel_rfl)) (fun _ _ _ h => h) (Or.inl ⟨by rfl, ?_⟩) ?_ ?_
   rotate_left; · (intro w'; go_simp; with_reducible rfl)
   rotate_left; · (simp only [Act.put, List.setIfInBounds_toArray, List.set_cons_zero, List.set_cons_succ]; rfl)
   refine pure_ (i := 10) (N := some 12) (v := ?_) (a' := ?_) #[true,true,true,true,true,true,true,true,true,true,true,false] rfl rfl (any_of HT_.out (by kernel_rfl)) (fun _ _ _ h => h) (Or.inl ⟨by rfl, ?_⟩) ?_ ?_
   rotate_left; · (intro w'; go_simp; with_reducible rfl)
   rotate_left; · (simp only [Act.put, List.setIfInBounds_toArray, List.set_cons_zero, List.set_cons_succ]; rfl)
   refine last_ (i := 11) (N := none) #[true,true,true,true,true,true,true,true,true,true,true,true] rfl rfl (one_of HT_.out (by kernel_rfl)) (by decide) (fun K hK => ?_)
   have e5 : w2.cell? ⟨b, 5, none⟩ = some v := (blk_cell hb2.out 5).trans rfl
   have f5 : w2.frozen? ⟨b, 5, none⟩ = false := blk_frozen hb2.out 5
   refine skip_ (w1 := ?_) (by rfl) rfl ?_ ?_
   rotate_left; · (go_simp; rfl)
   refine hK.out _ _ ?_
   clear hK K
   refine wpAnyLast_done (by kernel_rfl) ?_ _
   go_wp2
   go_end0
   rw [← hr.out]
   simp only [List.length_append, List.length_cons, List.length_nil, Nat.zero_add] at hR2
   have hg1 : w2.heap[g]? = w1.heap[g]? := hg2.block g hP1.lt (fun e => absurd (hR.out.1 g e.symm) (Nat.not_le.mpr hgB))
   refine ⟨rfl, ?_, ⟨_, litC_args _ hb2.out, blk_far hl2.out hlb, blk_far hp2.out hpb, Kd.R_far (p := ⟨b, 5, none⟩) hR2 (fun q hq e => by have : q = b := e; omega) _, ?_⟩, ?_⟩
   · exact PAt.far (by obtain ⟨A, c, hx, r⟩ := hP1; exact ⟨A, c, hg1.trans hx, r⟩) hgb
   · have := hF1.size; have := hg2.size; simp at *; omega
   · have hA : Fr (atomS g b B) w w1 := (Fr.refl _ w).drew.trans (hF1.mono (fun q hq => Or.inl hq))
     have hA2 : Fr (atomS g b B) w w2 := hA.trans (Fr.of_grown hg2 (fun q e => Or.inl (Or.inr (Or.inr (hR.out.1 q e)))))
     exact hA2.set _ (Or.inl (Or.inr (Or.inl rfl))) _
end Go.Proofs.YtfhpecgknmfnnaaDoor.M
end
section
namespace Go.Proofs.YtfhpecgknmfnnaaDoor.M
open Go.RowKit Go.Proofs.YtfhpecgknmfnnaaDoorW.PrintWords Go.Proofs.YtfhpecgknmfnnaaDoorW.PrintMore Go.Proofs.YtfhpecgknmfnnaaDoorW.PrintLast
attribute [local go_sem] max2_int min2_int max_two min_two
abbrev opens : ByteArray := ⟨#[40]⟩
abbrev closes : ByteArray := ⟨#[41]⟩
def atomP (T : List Tok) (s : ByteArray) (n : Nat) : PR (ByteArray × List Term) := match takeP T s [1] n with
 | .error p => .error p
 | .ok (x, m) => if isT T s m opens then match listP T s (termP T s) 4 (m + 1) with
    | .error p => .error p
    | .ok (ts, j) => match needP T s closes j with
      | .error p => .error p
      | .ok (_, i) => .ok ((x, ts), i)
   else .ok ((x, []), m)
def atomF (g b : Nat) (q : Nat) : Prop := q = g ∨ q = b
def AtomO (b : Nat) (k : Int) (who : Term) (rest : List Value) (ty : TypeId) (w : World) (r : ByteArray × List Term) (w' : World) : Prop :=
 ∃ v, w'.heap[b]? = some (.cells (litC k who r.1 v rest) ty (0, 0)) ∧ Kd.R kTerm 25 w' w.heap.size (fun q => w.heap.size ≤ q) v r.2
def rAtom.T : Bool × List (List Nat × List Nat) := (true, [([], []), ([], []), ([], []), ([1, 2], [1, 2]), ([0, 0, 1, 2, 3], [0]), ([4, 0, 1, 2, 3], [4]), ([5, 3, 3, 0, 1, 2, 3], [3, 5])])
def rAtom.B : List Nat := [0, 0, 0, 6, 15, 31, 63]
theorem rAtom.tab : rtab .any (opsOf Tryd.f57 1) = rAtom.T := by kernel_rfl
theorem rAtom.bits : waitsOk rAtom.T.2 rAtom.B = true := by kernel_rfl
theorem litC_pred {k : Int} {who : Term} {pred : ByteArray} {v : Value} {rest : List Value} {ty : TypeId} {w : World} {b : Nat} (x : ByteArray) (h : w.heap[b]? = some (.cells (litC k who pred v rest) ty (0, 0))) :
 (w.setCell ⟨b, 4, none⟩ (.string x)).heap[b]? = some (.cells (litC k who x v rest) ty (0, 0)) := by
 have h2 := blk_set h 4 (.string x)
 rwa [show (litC k who pred v rest).setIfInBounds 4 (.string x) = litC k who x v rest by simp [litC]] at h2
set_option maxHeartbeats 4000000 in
set_option maxRecDepth 100000 in
theorem atom_calls {w0 : World} {T : List Tok} {s : ByteArray} {g b n : Nat} {k : Int} {who : Term} {pred0 : ByteArray} {rest : List Value} {ty : TypeId} {w : World} (hT : TokOk s T) (hgb : g ≠ b) (h : PAt w0 T s w g n) (hB : Bel w0 w) (hb0 : Free w0 b)
 (hL : w.heap[b]? = some (.cells (litC k who pred0 (.slice none 0 0) rest) ty (0, 0))) :
 Calls Tryd.prog 57 #[.pointer (some ⟨g, 0, none⟩), .pointer (some ⟨b, 0, none⟩)] w (OPost w0 T s g (atomF g b) w (AtomO b k who rest ty w) (atomP T s n)) := by
 have hgw := h.lt
 have hbw := blk_lt hL
 have cp : ((w.alloc (.cells #[.pointer (some ⟨g, 0, none⟩)] 98)).alloc (.cells #[.pointer (some ⟨b, 0, none⟩)] 100)).cell? ⟨w.heap.size, 0, none⟩ = some (.pointer (some ⟨g, 0, none⟩)) := cell_alloc ((blk_cell (heap_alloc_new w _) 0).trans rfl) _
 have cl : ((w.alloc (.cells #[.pointer (some ⟨g, 0, none⟩)] 98)).alloc (.cells #[.pointer (some ⟨b, 0, none⟩)] 100)).cell? ⟨w.heap.size + 1, 0, none⟩ = some (.pointer (some ⟨b, 0, none⟩)) := by
  have h := (blk_cell (heap_alloc_new (w.alloc (.cells #[.pointer (some ⟨g, 0, none⟩)] 98)) (.cells #[.pointer (some ⟨b, 0, none⟩)] 100)) 0)
  rw [show (w.alloc (.cells #[.pointer (some ⟨g, 0, none⟩)] 98)).heap.size = w.heap.size + 1 by simp] at h
  exact h.trans rfl
 have hP2 := Aside0.mk ((h.alloc (.cells #[.pointer (some ⟨g, 0, none⟩)] 98)).alloc (.cells #[.pointer (some ⟨b, 0, none⟩)] 100))
 have hB2 := Aside0.mk (Bel.alloc (Bel.alloc hB (.cells #[.pointer (some ⟨g, 0, none⟩)] 98)) (.cells #[.pointer (some ⟨b, 0, none⟩)] 100))
 have hL2 := Aside0.mk (blk_alloc (blk_alloc hL (.cells #[.pointer (some ⟨g, 0, none⟩)] 98)) (.cells #[.pointer (some ⟨b, 0, none⟩)] 100))
 have hg0 := h.ge
 have hBw := Aside0.mk hB
 have hk1 : Aside0 (Kd.C (Kd.int .u8) (((w.alloc (.cells #[.pointer (some ⟨g, 0, none⟩)] 98)).alloc (.cells #[.pointer (some ⟨b, 0, none⟩)] 100)).drew.alloc (.cells #[.int .u8 1] 5)) (some ⟨w.heap.size + 1 + 1, 0, none⟩) 1 [1]) := ⟨by
  have h := ints_new (k := .u8) [1] (by simp) (heap_alloc_new ((w.alloc (.cells #[.pointer (some ⟨g, 0, none⟩)] 98)).alloc (.cells #[.pointer (some ⟨b, 0, none⟩)] 100)).drew (.cells #[.int .u8 1] 5))
  rw [show ((w.alloc (.cells #[.pointer (some ⟨g, 0, none⟩)] 98)).alloc (.cells #[.pointer (some ⟨b, 0, none⟩)] 100)).drew.heap.size = w.heap.size + 1 + 1 by simp] at h
  exact h⟩
 clear h hB hL
 obtain ⟨r, hr⟩ : ∃ r, r = takeP T s [1] n := ⟨_, rfl⟩
 cases r with
 | error p =>
   have hE := Aside0.mk (show atomP T s n = .error p by unfold atomP; rw [← hr])
   replace hr := Aside0.mk hr
   go_enter Tryd.func57, Tryd.ntmps57
   go_wp2_with fail
   refine start_ (n := 7) (S := fun w' => w'.cell? ⟨w.heap.size, 0, none⟩ = some (.pointer (some ⟨g, 0, none⟩)) ∧ w'.cell? ⟨w.heap.size + 1, 0, none⟩ = some (.pointer (some ⟨b, 0, none⟩))) (ds := [6]) #[false,false,false,false,false,false,false] rfl rfl rfl ⟨cp, cl⟩ (fun hS_ => ?_)
   refine with_tabW rAtom.tab rAtom.bits (fun HT_ HW_ => ?_)
   refine take_ (i := 0) (N := some 4) (v := ?_) (a' := ?_) #[true,false,false,false,false,false,false] rfl rfl (take_ofW HT_.out HW_.out (by kernel_rfl)) (fun _ _ _ h => h) (Or.inl ⟨by rfl, ?_⟩) hS_ ?_ ?_
   rotate_left; · (rintro w' ⟨s0, s1⟩; go_simp; with_reducible rfl)
   rotate_left; · (simp only [Act.put, List.setIfInBounds_toArray, List.set_cons_zero, List.set_cons_succ]; rfl)
   refine take_ (i := 1) (N := some 5) (v := ?_) (a' := ?_) #[true,true,false,false,false,false,false] rfl rfl (take_ofW HT_.out HW_.out (by kernel_rfl)) (fun _ _ _ h => h) (Or.inl ⟨by rfl, ?_⟩) hS_ ?_ ?_
   rotate_left; · (rintro w' ⟨s0, s1⟩; go_simp; with_reducible rfl)
   rotate_left; · (simp only [Act.put, List.setIfInBounds_toArray, List.set_cons_zero, List.set_cons_succ]; rfl)
   refine one_ (i := 2) (N := some 6) #[true,true,true,false,false,false,false] rfl rfl (one_of HT_.out (by kernel_rfl)) (by decide) (fun K hK => ?_)
   refine value_ (w1 := ?_) (v := ?_) (by rfl) rfl ?_ ?_
   rotate_left 2; · (go_simp; constructor; rfl; rfl)
   refine hK.out _ _ ⟨cell_alloc hS_.1 _, cell_alloc hS_.2 _⟩ (fun hS_ => ?_)
   clear hK K
   refine norm_ (a' := ?_) ?_ ?_
   rotate_left; · (show Act.put _ (some 6) _ = _; simp only [Act.put, List.setIfInBounds_toArray, List.set_cons_zero, List.set_cons_succ]; rfl)
   refine one_ (i := 3) (N := some 7) #[true,true,true,true,false,false,false] rfl rfl (one_of HT_.out (by kernel_rfl)) (by decide) (fun K hK => ?_)
   refine goesP Tryd.func81 (by kernel_rfl) rfl #[.pointer (some ⟨g, 0, none⟩), .slice (some ⟨w.heap.size + 1 + 1, 0, none⟩) 1 1] (by rfl) rfl rfl (by simp only [List.map_toArray, List.map_cons, List.map_nil]; rfl) ?_
   refine (take_calls (w0 := w0) (T := T) (s := s) (n := n) (ks := [1]) rfl hk1.out (PAt.alloc hP2.out.drew _) (Bel.alloc (Bel.drew hB2.out) _) hT).mono ?_
   rw [← hr.out]
   rintro e w3 ⟨rfl, hF3⟩
   refine .inr ⟨_, rfl, ?_⟩
   refine ⟨rfl, ?_⟩
   rw [hE.out]
   exact ⟨rfl, (((((Fr.refl (atomF g b) w).alloc _).alloc _).drew).alloc _).trans (hF3.mono (fun q hq => Or.inl hq))⟩
 | ok r =>
   obtain ⟨x, m⟩ := r
   have hmf := @hmf
   have hE := Aside0.mk (show atomP T s n = if isT T s m opens then match listP T s (termP T s) 4 (m + 1) with
    | .error p => .error p
    | .ok (ts, j) => match needP T s closes j with
      | .error p => .error p
      | .ok (_, i) => .ok ((x, ts), i)
    else .ok ((x, []), m) by unfold atomP; rw [← hr])
   replace hr := Aside0.mk hr
   go_enter Tryd.func57, Tryd.ntmps57
   go_wp2_with fail
   refine start_ (n := 7) (S := fun w' => w'.cell? ⟨w.heap.size, 0, none⟩ = some (.pointer (some ⟨g, 0, none⟩)) ∧ w'.cell? ⟨w.heap.size + 1, 0, none⟩ = some (.pointer (some ⟨b, 0, none⟩))) (ds := [6]) #[false,false,false,false,false,false,false] rfl rfl rfl ⟨cp, cl⟩ (fun hS_ => ?_)
   refine with_tabW rAtom.tab rAtom.bits (fun HT_ HW_ => ?_)
   refine take_ (i := 0) (N := some 4) (v := ?_) (a' := ?_) #[true,false,false,false,false,false,false] rfl rfl (take_ofW HT_.out HW_.out (by kernel_rfl)) (fun _ _ _ h => h) (Or.inl ⟨by rfl, ?_⟩) hS_ ?_ ?_
   rotate_left; · (rintro w' ⟨s0, s1⟩; go_simp; with_reducible rfl)
   rotate_left; · (simp only [Act.put, List.setIfInBounds_toArray, List.set_cons_zero, List.set_cons_succ]; rfl)
   refine take_ (i := 1) (N := some 5) (v := ?_) (a' := ?_) #[true,true,false,false,false,false,false] rfl rfl (take_ofW HT_.out HW_.out (by kernel_rfl)) (fun _ _ _ h => h) (Or.inl ⟨by rfl, ?_⟩) hS_ ?_ ?_
   rotate_left; · (rintro w' ⟨s0, s1⟩; go_simp; with_reducible rfl)
   rotate_left; · (simp only [Act.put, List.setIfInBounds_toArray, List.set_cons_zero, List.set_cons_succ]; rfl)
   refine one_ (i := 2) (N := some 6) #[true,true,true,false,false,false,false] rfl rfl (one_of HT_.out (by kernel_rfl)) (by decide) (fun K hK => ?_)
   refine value_ (w1 := ?_) (v := ?_) (by rfl) rfl ?_ ?_
   rotate_left 2; · (go_simp; constructor; rfl; rfl)
   refine hK.out _ _ ⟨cell_alloc hS_.1 _, cell_alloc hS_.2 _⟩ (fun hS_ => ?_)
   clear hK K
   refine norm_ (a' := ?_) ?_ ?_
   rotate_left; · (show Act.put _ (some 6) _ = _; simp only [Act.put, List.setIfInBounds_toArray, List.set_cons_zero, List.set_cons_succ]; rfl)
   refine one_ (i := 3) (N := some 7) #[true,true,true,true,false,false,false] rfl rfl (one_of HT_.out (by kernel_rfl)) (by decide) (fun K hK => ?_)
   refine goesP Tryd.func81 (by kernel_rfl) rfl #[.pointer (some ⟨g, 0, none⟩), .slice (some ⟨w.heap.size + 1 + 1, 0, none⟩) 1 1] (by rfl) rfl rfl (by simp only [List.map_toArray, List.map_cons, List.map_nil]; rfl) ?_
   refine (take_calls (w0 := w0) (T := T) (s := s) (n := n) (ks := [1]) rfl hk1.out (PAt.alloc hP2.out.drew _) (Bel.alloc (Bel.drew hB2.out) _) hT).mono ?_
   rw [← hr.out]
   rintro e w3 ⟨⟨v1, rfl, rfl⟩, hP3, hF3⟩
   refine .inl ⟨_, rfl, ?_⟩
   refine hK.out _ _ ⟨hF3.cell (p := ⟨w.heap.size, 0, none⟩) hS_.1 (Nat.ne_of_gt hgw), hF3.cell (p := ⟨w.heap.size + 1, 0, none⟩) hS_.2 (by simp; omega)⟩ (fun hS_ => ?_)
   clear hK K
   refine norm_ (a' := ?_) ?_ ?_
   rotate_left; · (show Act.put _ (some 7) _ = _; simp only [Act.put, List.setIfInBounds_toArray, List.set_cons_zero, List.set_cons_succ]; rfl)
   refine pure_ (i := 4) (N := some 8) (v := ?_) (a' := ?_) #[true,true,true,true,true,false,false] rfl rfl (any_of HT_.out (by kernel_rfl)) (fun _ _ _ h => h) (Or.inl ⟨by rfl, ?_⟩) ?_ ?_
   rotate_left; · (intro w'; go_simp; with_reducible rfl)
   rotate_left; · (simp only [Act.put, List.setIfInBounds_toArray, List.set_cons_zero, List.set_cons_succ]; rfl)
   refine pure_ (i := 5) (N := some 9) (v := ?_) (a' := ?_) #[true,true,true,true,true,true,false] rfl rfl (any_of HT_.out (by kernel_rfl)) (fun _ _ _ h => h) (Or.inl ⟨by rfl, ?_⟩) ?_ ?_
   rotate_left; · (intro w'; go_simp; with_reducible rfl)
   rotate_left; · (simp only [Act.put, List.setIfInBounds_toArray, List.set_cons_zero, List.set_cons_succ]; rfl)
   refine last_ (i := 6) (N := none) #[true,true,true,true,true,true,true] rfl rfl (one_of HT_.out (by kernel_rfl)) (by decide) (fun K hK => ?_)
   have hb3 := hF3.blk (blk_alloc (blk_drew hL2.out) _) (Ne.symm hgb)
   have e4 : w3.cell? ⟨b, 4, none⟩ = some (.string pred0) := (blk_cell hb3 4).trans rfl
   have f4 : w3.frozen? ⟨b, 4, none⟩ = false := blk_frozen hb3 4
   refine skip_ (w1 := ?_) (by rfl) rfl ?_ ?_
   rotate_left; · (go_simp; rfl)
   refine hK.out _ _ ?_
   clear hK K
   refine wpAnyLast_done (by kernel_rfl) ?_ _
   have hFr0 := (((((Fr.refl (atomF g b) w).alloc (.cells #[.pointer (some ⟨g, 0, none⟩)] 98)).alloc (.cells #[.pointer (some ⟨b, 0, none⟩)] 100)).drew).alloc (.cells #[.int .u8 1] 5)).trans (hF3.mono (fun q hq => Or.inl hq))
   have hbp := hF3.blk (blk_alloc (blk_drew (blk_alloc (heap_alloc_new w (.cells #[.pointer (some ⟨g, 0, none⟩)] 98)) (.cells #[.pointer (some ⟨b, 0, none⟩)] 100))) (.cells #[.int .u8 1] 5)) (Nat.ne_of_gt hgw)
   have hbl := hF3.blk (blk_alloc (blk_drew (show ((w.alloc (.cells #[.pointer (some ⟨g, 0, none⟩)] 98)).alloc (.cells #[.pointer (some ⟨b, 0, none⟩)] 100)).heap[w.heap.size + 1]? = some (.cells #[.pointer (some ⟨b, 0, none⟩)] 100 (0, 0)) by
    have h := heap_alloc_new (w.alloc (.cells #[.pointer (some ⟨g, 0, none⟩)] 98)) (.cells #[.pointer (some ⟨b, 0, none⟩)] 100)
    rwa [show (w.alloc (.cells #[.pointer (some ⟨g, 0, none⟩)] 98)).heap.size = w.heap.size + 1 by simp] at h)) (.cells #[.int .u8 1] 5)) (by omega)
   have hPa := Aside0.mk (PAt.far (p := ⟨b, 4, none⟩) (u := .string x) hP3 hgb)
   have hFa := Aside0.mk (hFr0.set ⟨b, 4, none⟩ (Or.inl (Or.inr rfl)) (.string x))
   have hLa := Aside0.mk (litC_pred x hb3)
   have hpa := Aside0.mk (blk_far (p := ⟨b, 4, none⟩) (u := .string x) hbp (Nat.ne_of_gt hbw))
   have hla := Aside0.mk (blk_far (p := ⟨b, 4, none⟩) (u := .string x) hbl (by simp; omega))
   have hBa := Aside0.mk (hBw.out.fr hFa.out (fun q hq => by rcases hq with rfl | rfl; exact Or.inl hg0; exact hb0))
   have hmx := hPa.out.max
   have cpa : (w3.setCell ⟨b, 4, none⟩ (.string x)).cell? ⟨w.heap.size, 0, none⟩ = some (.pointer (some ⟨g, 0, none⟩)) := (blk_cell hpa.out 0).trans rfl
   clear hbp hbl hFr0 hb3 e4 f4 hP3 hF3 hS_ HT_ HW_ hk1 cp cl hP2 hr hL2
   cases hc : isT T s m opens
   · rw [hc] at hE
     have hc := Aside0.mk hc
     go_wp2_with fail
     refine (is_calls 0 m opens (by omega) hPa.out hBa.out hT (by omega)).mono ?_; rintro e w5 ⟨rfl, hd5⟩
     rw [hc.out]
     go_wp2_with fail
     go_end0
     rw [hE.out]
     exact ⟨rfl, hPa.out.drawn hd5, ⟨_, blk_drawn hLa.out hd5, Kd.R_nil _ _ _ _ _⟩, hFa.out.drawn hd5⟩
   · rw [hc] at hE
     have hl := isT_lt hc
     have hc := Aside0.mk hc
     go_wp2_with fail
     refine (is_calls 0 m opens (by omega) hPa.out hBa.out hT (by omega)).mono ?_; rintro e w5 ⟨rfl, hd5⟩
     rw [hc.out]
     have hP5 := Aside0.mk (hPa.out.drawn hd5)
     obtain ⟨A5, c5, p0, p1, p2, q2, hm5, _, _⟩ := hP5.out.cells
     have hp5 := Aside0.mk (blk_drawn hpa.out hd5)
     have hl5 := Aside0.mk (blk_drawn hla.out hd5)
     have hL5 := Aside0.mk (blk_drawn hLa.out hd5)
     have hF5 := Aside0.mk (hFa.out.drawn hd5)
     have cp5 : w5.cell? ⟨w.heap.size, 0, none⟩ = some (.pointer (some ⟨g, 0, none⟩)) := (blk_cell hp5.out 0).trans rfl
     clear hPa hFa hLa hpa hla hBa cpa hd5
     go_wp2_with fail
     have hz : (w5.setCell ⟨g, 2, none⟩ (.int .i64 ((m : Int) + 1))).heap.size = w5.heap.size := by simp
     have hlt5 := hF5.out.size
     have hs5 := blk_lt hl5.out
     have hB5 := Aside0.mk (hBw.out.fr hF5.out (fun q hq => by rcases hq with rfl | rfl; exact Or.inl hg0; exact hb0))
     have hP6 := Aside0.mk (hP5.out.to (m + 1) ((m : Int) + 1) (by omega) (by omega))
     have hF6 := Aside0.mk (hF5.out.set ⟨g, 2, none⟩ (Or.inl (Or.inl rfl)) (.int .i64 ((m : Int) + 1)))
     have hB6 := Aside0.mk (hB5.out.setCell (p := ⟨g, 2, none⟩) hg0 (.int .i64 ((m : Int) + 1)))
     have hI6 : Aside0 (AtomI g b (w.heap.size + 1) w.heap.size w5.heap.size k who x rest ty [] (w5.setCell ⟨g, 2, none⟩ (.int .i64 ((m : Int) + 1)))) :=
      ⟨_, blk_far hL5.out (Ne.symm hgb), blk_far hl5.out (by simp; omega), blk_far hp5.out (by simp; omega), Kd.R_nil _ _ _ _ _, by simp⟩
     have hE65 := Aside0.mk (fun (args : Array Value) (w : World) => enters_ (f := 82) (P := Tryd.prog) Tryd.func82 (by kernel_rfl) rfl args w)
     have hset : Aside0 (∀ (w1 : World) (u : Int), Fr (fun q => q = g) w1 (w1.setCell ⟨g, 2, none⟩ (.int .i64 u))) := ⟨fun w1 u => (Fr.refl (fun q => q = g) w1).set ⟨g, 2, none⟩ (Or.inl rfl) (.int .i64 u)⟩
     refine (list_calls (w0 := w0) (T := T) (s := s) (g := g) (n := m + 1) (S := atomS g b w5.heap.size) (fun acc w' => AtomI g b (w.heap.size + 1) w.heap.size w5.heap.size k who x rest ty acc w') (termP T s) 82 #[.pointer (some ⟨w.heap.size + 1, 0, none⟩), .pointer (some ⟨w.heap.size, 0, none⟩)] 4 (by omega) [] hE65.out (Or.inl rfl)
      (fun q hq => by rcases hq with rfl | rfl | hq; exact Or.inl hg0; exact hb0; exact Or.inl <| Nat.le_trans hB5.out.size hq)
      (fun acc n w' hacc hP hB hI => atom1_calls hT hgb (by omega) (by omega) (by omega) (by omega) (by omega) (by omega) (by omega) (by omega) acc n w' (by simp at hacc; omega) hP hB hI)
      (fun acc w1 w2 hI hd => hI.fr (S := fun _ => False) ((Fr.refl _ w1).drawn hd) id id id (fun _ _ => id))
      (fun acc w1 u hI => hI.fr (hset.out w1 u) (Ne.symm hgb) (by omega) (by omega) (fun q hq => by omega))
      hP6.out hB6.out hT hI6.out).mono ?_
     intro e w7 hp
     obtain ⟨r, hr⟩ : ∃ r, r = listP T s (termP T s) 4 (m + 1) := ⟨_, rfl⟩
     rw [← hr] at hp
     cases r with
     | error p =>
       obtain ⟨rfl, hF7⟩ := hp
       have hE2 := Aside0.mk (show atomP T s n = .error p by rw [hE.out]; simp only [if_true]; rw [← hr])
       clear hr
       go_wp2
       refine ⟨rfl, ?_⟩
       rw [hE2.out]
       exact ⟨rfl, hF6.out.step hF7 (fun q hq => by rcases hq with rfl | rfl | hq; exact Or.inl (Or.inl rfl); exact Or.inl (Or.inr rfl); exact Or.inr (by omega))⟩
     | ok r =>
       obtain ⟨ts, j⟩ := r
       obtain ⟨rfl, hP7, hI7, hF7⟩ := hp
       rw [List.nil_append] at hI7
       have hE2 := Aside0.mk (show atomP T s n = match needP T s closes j with
        | .error p => .error p
        | .ok (_, i) => .ok ((x, ts), i) by rw [hE.out]; simp only [if_true]; rw [← hr])
       have hF7 := Aside0.mk (hF6.out.step hF7 (fun q hq => by rcases hq with rfl | rfl | hq; exact Or.inl (Or.inl rfl); exact Or.inl (Or.inr rfl); exact Or.inr (by omega)))
       have hB7 := Aside0.mk (hBw.out.fr hF7.out (fun q hq => by rcases hq with rfl | rfl; exact Or.inl hg0; exact hb0))
       have hP7 := Aside0.mk hP7
       obtain ⟨v7, hL7, hl7, hp7, hR7, _⟩ := hI7
       have cp7 : w7.cell? ⟨w.heap.size, 0, none⟩ = some (.pointer (some ⟨g, 0, none⟩)) := (blk_cell hp7 0).trans rfl
       have hL7 := Aside0.mk hL7
       have hR7 := Aside0.mk hR7
       clear hr hP5 hF5 hL5 hl5 hp5 cp5 p0 p1 p2 q2 hP6 hF6 hB6 hI6 hl7 hp7
       go_wp2_with fail
       refine (need_calls closes hP7.out hB7.out hT).mono ?_
       intro e w8 hp
       obtain ⟨r, hr⟩ : ∃ r, r = needP T s closes j := ⟨_, rfl⟩
       rw [← hr] at hp
       cases r with
       | error p =>
         obtain ⟨rfl, hF8⟩ := hp
         have hE3 := Aside0.mk (show atomP T s n = .error p by rw [hE2.out, ← hr])
         clear hr
         go_wp2
         refine ⟨rfl, ?_⟩
         rw [hE3.out]
         exact ⟨rfl, hF7.out.trans (hF8.mono (fun q hq => Or.inl hq))⟩
       | ok r =>
         obtain ⟨_, i⟩ := r
         obtain ⟨⟨v, rfl, rfl⟩, hP8, hF8⟩ := hp
         have hE3 := Aside0.mk (show atomP T s n = .ok ((x, ts), i) by rw [hE2.out, ← hr])
         clear hr
         go_wp2
         go_end0
         rw [hE3.out]
         exact ⟨rfl, hP8, ⟨_, hF8.blk hL7.out (Ne.symm hgb), Kd.R_mono (Kd.R_lower (hF8.R hR7.out (fun q hq e => by have : q = g := e; omega)) (by omega)) (fun q hq => by omega)⟩, hF7.out.trans (hF8.mono (fun q hq => Or.inl hq))⟩
end Go.Proofs.YtfhpecgknmfnnaaDoor.M
end
section
namespace Go.Proofs.YtfhpecgknmfnnaaDoor.M
open Go.RowKit Go.Proofs.YtfhpecgknmfnnaaDoorW.PrintWords Go.Proofs.YtfhpecgknmfnnaaDoorW.PrintMore Go.Proofs.YtfhpecgknmfnnaaDoorW.PrintLast
attribute [local go_sem] max2_int min2_int max_two min_two
abbrev says : ByteArray := ⟨#[115, 97, 121, 115]⟩
def speaks (T : List Tok) (s : ByteArray) (n : Nat) : Bool := kindT T n == 2 || (isT T s (n + 1) says && kindT T n == 1)
def saidP (T : List Tok) (s : ByteArray) (n : Nat) : PR (Term × (ByteArray × List Term)) :=
 if speaks T s n then match termP T s n with
  | .error p => .error p
  | .ok (who, m) => match needP T s says m with
    | .error p => .error p
    | .ok (_, i) => match atomP T s i with
      | .error p => .error p
      | .ok (a, j) => .ok ((who, a), j)
 else match atomP T s n with
  | .error p => .error p
  | .ok (a, j) => .ok ((Term.z, a), j)
def SaidO (b : Nat) (k : Int) (rest : List Value) (ty : TypeId) (w : World) (r : Term × (ByteArray × List Term)) (w' : World) : Prop :=
 ∃ v, w'.heap[b]? = some (.cells (litC k r.1 r.2.1 v rest) ty (0, 0)) ∧ Kd.R kTerm 25 w' w.heap.size (fun q => w.heap.size ≤ q) v r.2.2
theorem litC_who {k : Int} {who : Term} {pred : ByteArray} {v : Value} {rest : List Value} {ty : TypeId} {w : World} {b : Nat} (t : Term) (h : w.heap[b]? = some (.cells (litC k who pred v rest) ty (0, 0))) :
 (((w.setCell ⟨b, 1, none⟩ (.string t.var)).setCell ⟨b, 2, none⟩ (.string t.val.sym)).setCell ⟨b, 3, none⟩ (.int .i64 t.val.num)).heap[b]? = some (.cells (litC k t pred v rest) ty (0, 0)) := by
 have h2 := blk_set (blk_set (blk_set h 1 (.string t.var)) 2 (.string t.val.sym)) 3 (.int .i64 t.val.num)
 rwa [show (((litC k who pred v rest).setIfInBounds 1 (.string t.var)).setIfInBounds 2 (.string t.val.sym)).setIfInBounds 3 (.int .i64 t.val.num) = litC k t pred v rest by simp [litC]] at h2
set_option maxHeartbeats 4000000 in
set_option maxRecDepth 100000 in
theorem said_calls {w0 : World} {T : List Tok} {s : ByteArray} {g b n : Nat} {k : Int} {pred0 : ByteArray} {rest : List Value} {ty : TypeId} {w : World} (hT : TokOk s T) (hgb : g ≠ b) (h : PAt w0 T s w g n) (hB : Bel w0 w) (hb0 : Free w0 b)
 (hL : w.heap[b]? = some (.cells (litC k Term.z pred0 (.slice none 0 0) rest) ty (0, 0))) :
 Calls Tryd.prog 77 #[.pointer (some ⟨g, 0, none⟩), .pointer (some ⟨b, 0, none⟩)] w (OPost w0 T s g (atomF g b) w (SaidO b k rest ty w) (saidP T s n)) := by
 have hgw := h.lt
 have hbw := blk_lt hL
 have hg0 := h.ge
 have hmx := h.max
 have hP := Aside0.mk h
 have hBw := Aside0.mk hB
 have hLw := Aside0.mk hL
 clear h hB hL
 cases hs : speaks T s n
 · have hE := Aside0.mk (show saidP T s n = match atomP T s n with
    | .error p => .error p
    | .ok (a, j) => .ok ((Term.z, a), j) by unfold saidP; rw [hs]; rfl)
   have hcase : (kindT T n == 2) = false ∧ (isT T s (n + 1) says = false ∨ isT T s (n + 1) says = true ∧ (kindT T n == 1) = false) := by
    unfold speaks at hs
    cases h2 : kindT T n == 2 <;> cases h1 : kindT T n == 1 <;> cases h3 : isT T s (n + 1) says <;> simp_all
   clear hs
   obtain ⟨hk2, hy | ⟨hy, hk1⟩⟩ := hcase
   all_goals
    replace hy := Aside0.mk hy
    go_enter Tryd.func77, Tryd.ntmps77
    go_wp2_with fail
    refine (kind_calls hP.out hBw.out).mono ?_; rintro e w1 ⟨rfl, hd⟩
    go_wp2_with fail
    refine (is_calls 1 (n + 1) says (by omega) (hP.out.drawn hd) (bel_drawn hBw.out hd) hT (hP.out.max1 hT)).mono ?_; rintro e w2 ⟨rfl, hd'⟩
    replace hd := drawn_trans hd hd'
    clear hd'
    rw [hy.out]
    go_wp2_with fail
    first
    | (go_at_call 84
       refine (kind_calls (hP.out.drawn hd) (bel_drawn hBw.out hd)).mono ?_; rintro e w3 ⟨rfl, hd'⟩
       replace hd := drawn_trans hd hd'
       clear hd'
       go_wp2_with fail)
    | skip
    refine (atom_calls hT hgb (hP.out.drawn hd) (bel_drawn hBw.out hd) hb0 (blk_drawn hLw.out hd)).mono ?_
    intro e w4 hp
    obtain ⟨r, hr⟩ : ∃ r, r = atomP T s n := ⟨_, rfl⟩
    rw [← hr] at hp
    cases r with
    | error p =>
      obtain ⟨rfl, hF4⟩ := hp
      have hE2 := Aside0.mk (show saidP T s n = .error p by rw [hE.out, ← hr])
      clear hr
      go_wp2
      refine ⟨rfl, ?_⟩
      rw [hE2.out]
      exact ⟨rfl, ((Fr.refl _ w).drawn hd).trans hF4⟩
    | ok r =>
      obtain ⟨⟨x, ts⟩, j⟩ := r
      obtain ⟨rfl, hP4, ⟨v, hL4, hR4⟩, hF4⟩ := hp
      have hE2 := Aside0.mk (show saidP T s n = .ok ((Term.z, (x, ts)), j) by rw [hE.out, ← hr])
      clear hr
      go_wp2
      go_end0
      rw [hE2.out]
      have hz := drawn_size hd
      exact ⟨rfl, hP4, ⟨v, hL4, Kd.R_mono (Kd.R_lower hR4 (by omega)) (fun q hq => by omega)⟩, ((Fr.refl _ w).drawn hd).trans hF4⟩
 · have hE := Aside0.mk (show saidP T s n = match termP T s n with
    | .error p => .error p
    | .ok (who, m) => match needP T s says m with
      | .error p => .error p
      | .ok (_, i) => match atomP T s i with
        | .error p => .error p
        | .ok (a, j) => .ok ((who, a), j) by unfold saidP; rw [hs]; rfl)
   have hcase : (kindT T n == 2) = true ∨ (kindT T n == 2) = false ∧ isT T s (n + 1) says = true ∧ (kindT T n == 1) = true := by
    unfold speaks at hs
    cases h2 : kindT T n == 2 <;> cases h1 : kindT T n == 1 <;> cases h3 : isT T s (n + 1) says <;> simp_all
   clear hs
   rcases hcase with hk2 | ⟨hk2, hy, hk1⟩
   all_goals
    try replace hy := Aside0.mk hy
    go_enter Tryd.func77, Tryd.ntmps77
    go_wp2_with fail
    refine (kind_calls hP.out hBw.out).mono ?_; rintro e w1 ⟨rfl, hd⟩
    go_wp2_with fail
    first
    | (go_at_call 58
       refine (is_calls 1 (n + 1) says (by omega) (hP.out.drawn hd) (bel_drawn hBw.out hd) hT (hP.out.max1 hT)).mono ?_; rintro e w2 ⟨rfl, hd'⟩
       replace hd := drawn_trans hd hd'
       clear hd'
       rw [hy.out]
       go_wp2_with fail
       refine (kind_calls (hP.out.drawn hd) (bel_drawn hBw.out hd)).mono ?_; rintro e w3 ⟨rfl, hd'⟩
       replace hd := drawn_trans hd hd'
       clear hd'
       go_wp2_with fail)
    | skip
    refine (term_calls (hP.out.drawn hd) (bel_drawn hBw.out hd) hT).mono ?_
    intro e w4 hp
    obtain ⟨r, hr⟩ : ∃ r, r = termP T s n := ⟨_, rfl⟩
    rw [← hr] at hp
    cases r with
    | error p =>
      obtain ⟨rfl, hF4⟩ := hp
      have hE2 := Aside0.mk (show saidP T s n = .error p by rw [hE.out, ← hr])
      clear hr
      go_wp2
      refine ⟨rfl, ?_⟩
      rw [hE2.out]
      exact ⟨rfl, ((Fr.refl _ w).drawn hd).trans (hF4.mono (fun q hq => Or.inl hq))⟩
    | ok r =>
      obtain ⟨who, m⟩ := r
      obtain ⟨⟨v, rfl, rfl⟩, hP4, hF4⟩ := hp
      have hE2 := Aside0.mk (show saidP T s n = match needP T s says m with
       | .error p => .error p
       | .ok (_, i) => match atomP T s i with
         | .error p => .error p
         | .ok (a, j) => .ok ((who, a), j) by rw [hE.out, ← hr])
      have hL4 := hF4.blk (blk_drawn hLw.out hd) (Ne.symm hgb)
      have c1 : w4.cell? ⟨b, 1, none⟩ = some (.string ⟨#[]⟩) := (blk_cell hL4 1).trans rfl
      have c2 : w4.cell? ⟨b, 2, none⟩ = some (.string ⟨#[]⟩) := (blk_cell hL4 2).trans rfl
      have c3 : w4.cell? ⟨b, 3, none⟩ = some (.int .i64 0) := (blk_cell hL4 3).trans rfl
      have f1 : w4.frozen? ⟨b, 1, none⟩ = false := blk_frozen hL4 1
      have f2 : w4.frozen? ⟨b, 2, none⟩ = false := blk_frozen hL4 2
      have f3 : w4.frozen? ⟨b, 3, none⟩ = false := blk_frozen hL4 3
      have hF4 := Aside0.mk (((Fr.refl (atomF g b) w).drawn hd).trans (hF4.mono (fun q hq => Or.inl hq)))
      have hP4 := Aside0.mk hP4
      have hL4 := Aside0.mk hL4
      clear hr hd
      go_wp2_with fail
      have hP5 := Aside0.mk (((hP4.out.far (p := ⟨b, 1, none⟩) (u := .string who.var) hgb).far (p := ⟨b, 2, none⟩) (u := .string who.val.sym) hgb).far (p := ⟨b, 3, none⟩) (u := .int .i64 who.val.num) hgb)
      have hF5 := Aside0.mk (((hF4.out.set ⟨b, 1, none⟩ (Or.inl (Or.inr rfl)) (.string who.var)).set ⟨b, 2, none⟩ (Or.inl (Or.inr rfl)) (.string who.val.sym)).set ⟨b, 3, none⟩ (Or.inl (Or.inr rfl)) (.int .i64 who.val.num))
      have hL5 := Aside0.mk (litC_who who hL4.out)
      have hB5 := Aside0.mk (hBw.out.fr hF5.out (fun q hq => by rcases hq with rfl | rfl; exact Or.inl hg0; exact hb0))
      refine (need_calls says hP5.out hB5.out hT).mono ?_
      clear hP4 hF4 hL4 c1 c2 c3 f1 f2 f3
      intro e w6 hp
      obtain ⟨r, hr⟩ : ∃ r, r = needP T s says m := ⟨_, rfl⟩
      rw [← hr] at hp
      cases r with
      | error p =>
        obtain ⟨rfl, hF6⟩ := hp
        have hE3 := Aside0.mk (show saidP T s n = .error p by rw [hE2.out, ← hr])
        clear hr
        go_wp2
        refine ⟨rfl, ?_⟩
        rw [hE3.out]
        exact ⟨rfl, hF5.out.trans (hF6.mono (fun q hq => Or.inl hq))⟩
      | ok r =>
        obtain ⟨_, i⟩ := r
        obtain ⟨⟨v, rfl, rfl⟩, hP6, hF6⟩ := hp
        have hE3 := Aside0.mk (show saidP T s n = match atomP T s i with
         | .error p => .error p
         | .ok (a, j) => .ok ((who, a), j) by rw [hE2.out, ← hr])
        have hL6 := Aside0.mk (hF6.blk hL5.out (Ne.symm hgb))
        have hF6 := Aside0.mk (hF5.out.trans (hF6.mono (fun q hq => Or.inl hq)))
        have hB6 := Aside0.mk (hBw.out.fr hF6.out (fun q hq => by rcases hq with rfl | rfl; exact Or.inl hg0; exact hb0))
        have hP6 := Aside0.mk hP6
        clear hr hP5 hF5 hL5 hB5
        go_wp2_with fail
        refine (atom_calls hT hgb hP6.out hB6.out hb0 hL6.out).mono ?_
        intro e w7 hp
        obtain ⟨r, hr⟩ : ∃ r, r = atomP T s i := ⟨_, rfl⟩
        rw [← hr] at hp
        cases r with
        | error p =>
          obtain ⟨rfl, hF7⟩ := hp
          have hE4 := Aside0.mk (show saidP T s n = .error p by rw [hE3.out, ← hr])
          clear hr
          go_wp2
          refine ⟨rfl, ?_⟩
          rw [hE4.out]
          exact ⟨rfl, hF6.out.trans hF7⟩
        | ok r =>
          obtain ⟨⟨x, ts⟩, j⟩ := r
          obtain ⟨rfl, hP7, ⟨v, hL7, hR7⟩, hF7⟩ := hp
          have hE4 := Aside0.mk (show saidP T s n = .ok ((who, (x, ts)), j) by rw [hE3.out, ← hr])
          clear hr
          go_wp2
          go_end0
          rw [hE4.out]
          have hz := hF6.out.size
          exact ⟨rfl, hP7, ⟨v, hL7, Kd.R_mono (Kd.R_lower hR7 hz) (fun q hq => Nat.le_trans hz hq)⟩, hF6.out.trans hF7⟩
end Go.Proofs.YtfhpecgknmfnnaaDoor.M
end
section
namespace Go.Proofs.YtfhpecgknmfnnaaDoor.M
open Go.RowKit Go.Proofs.YtfhpecgknmfnnaaDoorW.PrintWords Go.Proofs.YtfhpecgknmfnnaaDoorW.PrintMore Go.Proofs.YtfhpecgknmfnnaaDoorW.PrintLast
attribute [local go_sem] max2_int min2_int max_two min_two
abbrev nots : ByteArray := ⟨#[110, 111, 116]⟩
abbrev less : ByteArray := ⟨#[60]⟩
abbrev unlike : ByteArray := ⟨#[33, 61]⟩
def compares (T : List Tok) (s : ByteArray) (n : Nat) : Bool := kindT T n == 3 || (kindT T n == 2 && !isT T s (n + 1) says) || (kindT T n == 1 && (isT T s (n + 1) less || isT T s (n + 1) unlike))
def saidL (k : Int) : PR (Term × (ByteArray × List Term)) → PR Lit
 | .error p => .error p
 | .ok ((who, (x, ts)), j) => .ok (⟨k, who, x, ts⟩, j)
def pairP (T : List Tok) (s : ByteArray) (k : Int) (a : Term) (m : Nat) : PR Lit := match termP T s (m + 1) with
 | .error p => .error p
 | .ok (c, j) => .ok (⟨k, Term.z, noStr, [a, c]⟩, j)
def literalP (T : List Tok) (s : ByteArray) (n : Nat) : PR Lit :=
 if isT T s n nots then saidL 2 (saidP T s (n + 1))
 else if compares T s n then match termP T s n with
  | .error p => .error p
  | .ok (a, m) => if isT T s m unlike then pairP T s 4 a m else if isT T s m less then pairP T s 3 a m else .error (posOf T s m, 6)
 else saidL 1 (saidP T s n)
abbrev litV (l : Lit) (av : Value) : Value := .agg #[.int .u8 l.kind, .string l.who.var, .string l.who.val.sym, .int .i64 l.who.val.num, .string l.pred, av]
def LitO (w : World) (l : Lit) (v : Value) (w' : World) : Prop := ∃ av, v = litV l av ∧ Kd.R kTerm 25 w' w.heap.size (fun q => w.heap.size ≤ q) av l.args
def rLit11.T : Bool × List (List Nat × List Nat) := (true, [([], []), ([0], [0]), ([], []), ([2], [2]), ([3], [3]), ([1, 4, 3], [1, 4]), ([0, 1, 2, 3, 4, 5], []), ([6, 5, 5, 0, 1, 2, 3, 4, 5], [5, 6])])
def rLit11.B : List Nat := [0, 1, 0, 4, 12, 31, 63, 127]
theorem rLit11.tab : rtab .any (opsOf Tryd.f61 11) = rLit11.T := by kernel_rfl
theorem rLit11.bits : waitsOk rLit11.T.2 rLit11.B = true := by kernel_rfl
def rLit17.T : Bool × List (List Nat × List Nat) := (true, [([], []), ([0], [0]), ([], []), ([2], [2]), ([3], [3]), ([1, 4, 3], [1, 4]), ([0, 1, 2, 3, 4, 5], []), ([6, 5, 5, 0, 1, 2, 3, 4, 5], [5, 6])])
def rLit17.B : List Nat := [0, 1, 0, 4, 12, 31, 63, 127]
theorem rLit17.tab : rtab .any (opsOf Tryd.f61 17) = rLit17.T := by kernel_rfl
theorem rLit17.bits : waitsOk rLit17.T.2 rLit17.B = true := by kernel_rfl
def litSet (w : World) (b : Nat) (l : Lit) (av : Value) : World := (((((w.setCell ⟨b, 0, none⟩ (.int .u8 l.kind)).setCell ⟨b, 1, none⟩ (.string l.who.var)).setCell ⟨b, 2, none⟩ (.string l.who.val.sym)).setCell ⟨b, 3, none⟩ (.int .i64 l.who.val.num)).setCell ⟨b, 4, none⟩ (.string l.pred)).setCell ⟨b, 5, none⟩ av
theorem litC_kind {k : Int} {who : Term} {pred : ByteArray} {v : Value} {rest : List Value} {ty : TypeId} {w : World} {b : Nat} (x : Int) (h : w.heap[b]? = some (.cells (litC k who pred v rest) ty (0, 0))) :
 (w.setCell ⟨b, 0, none⟩ (.int .u8 x)).heap[b]? = some (.cells (litC x who pred v rest) ty (0, 0)) := by
 have h2 := blk_set h 0 (.int .u8 x)
 rwa [show (litC k who pred v rest).setIfInBounds 0 (.int .u8 x) = litC x who pred v rest by simp [litC]] at h2
theorem then_world {K : Act → World → Prop} {Q : Exit → Act → World → Prop} {e : Exit} {a : Act} {w : World} (F : World → Prop) (hF : F w) (h : ∀ w', F w' → Exit.then K Q e a w') : Exit.then K Q e a w := h w hF
theorem results_c {fn : Func} {p : Tmp} {ty : TypeId} (h : fn.results = #[.cell p ty]) (tmps : Array Value) (w : World) (g : Nat) (t : TypeId) (cs : Array Value) (fr : Nat × Nat) {fs : Array Field}
 (hp : tmps.getD p undef = .pointer (some ⟨g, 0, none⟩)) (hg : w.heap[g]? = some (.cells cs t fr))
 (hu : Tryd.prog.underlying ty = some (.struct fs)) (hi : (Tryd.prog.info? ty).map (·.size) = some cs.size) :
 (results fn tmps).run Tryd.prog w = .ok (.agg cs) w := by
 have hp' : tmps[p]?.getD undef = .pointer (some ⟨g, 0, none⟩) := by simpa using hp
 simp [results, h, hp', asAddr, run_loadVar_row w g t ty cs fr _ hg hu rfl hi]
theorem litSet_blk {w : World} {b : Nat} {l : Lit} {av v : Value} {who : Term} {k : Int} {pred : ByteArray} {ty : TypeId} (h : w.heap[b]? = some (.cells (litC k who pred v []) ty (0, 0))) :
 (litSet w b l av).heap[b]? = some (.cells #[.int .u8 l.kind, .string l.who.var, .string l.who.val.sym, .int .i64 l.who.val.num, .string l.pred, av] ty (0, 0)) := by
 have h2 := blk_set (blk_set (blk_set (blk_set (blk_set (blk_set h 0 (.int .u8 l.kind)) 1 (.string l.who.var)) 2 (.string l.who.val.sym)) 3 (.int .i64 l.who.val.num)) 4 (.string l.pred)) 5 av
 exact h2.trans (congrArg (fun c => some (Obj.cells c ty (0, 0))) (by simp [litC]))
set_option maxRecDepth 100000 in
theorem lit_end {w0 w w9 : World} {T : List Tok} {s : ByteArray} {g n j : Nat} {l : Lit} {av v : Value} {a : Act} (hd : a.defers = []) (hp : a.tmps.getD 2 undef = .pointer (some ⟨w.heap.size, 0, none⟩))
 (hL : w9.heap[w.heap.size]? = some (.cells (litC 0 Term.z noStr v []) 28 (0, 0)))
 (hR : Kd.R kTerm 25 w9 w.heap.size (fun q => w.heap.size + 2 ≤ q) av l.args) (hP : PAt w0 T s w9 g j) (hF : Fr (fun q => q = g) w w9) (hg : g < w.heap.size) (he : literalP T s n = .ok (l, j)) :
 bodyPost Tryd.prog Tryd.f61 (PPost w0 T s g (fun q => q = g) w (LitO w) (literalP T s n)) .ret a (litSet w9 w.heap.size l av) := by
 refine bodyPost_ret (v := litV l av) (results_c rfl _ _ w.heap.size 28 _ (0, 0) hp (litSet_blk hL) (by rfl) (by rfl)) hd ?_
 rw [he]
 refine ⟨⟨_, rfl, av, rfl, ?_⟩, ?_, ?_⟩
 rotate_left
 · unfold litSet
   have hx : g ≠ w.heap.size := by omega
   exact (((((hP.far hx).far hx).far hx).far hx).far hx).far hx
 rotate_left
 · unfold litSet
   refine Kd.R_mono (ok := fun q => w.heap.size + 2 ≤ q) ?_ (fun q hq => by omega)
   have hx : ∀ q, w.heap.size + 2 ≤ q → q ≠ w.heap.size := fun q hq e => by omega
   exact Kd.R_far (p := ⟨w.heap.size, 5, none⟩) (Kd.R_far (p := ⟨w.heap.size, 4, none⟩) (Kd.R_far (p := ⟨w.heap.size, 3, none⟩) (Kd.R_far (p := ⟨w.heap.size, 2, none⟩) (Kd.R_far (p := ⟨w.heap.size, 1, none⟩) (Kd.R_far (p := ⟨w.heap.size, 0, none⟩) hR hx _) hx _) hx _) hx _) hx _) hx _
 · unfold litSet
   have hx : w.heap.size = g ∨ w.heap.size ≤ w.heap.size := Or.inr (Nat.le_refl _)
   exact (((((hF.set ⟨_, 0, none⟩ hx _).set ⟨_, 1, none⟩ hx _).set ⟨_, 2, none⟩ hx _).set ⟨_, 3, none⟩ hx _).set ⟨_, 4, none⟩ hx _).set ⟨_, 5, none⟩ hx _
def cL : Code → Code
 | .seq a _ => a
 | .cond _ a _ => a
 | c => c
def cR : Code → Code
 | .seq _ b => b
 | .cond _ _ b => b
 | c => c
def codeR : Nat → Code → Code
 | 0, c => c
 | k + 1, c => codeR k (cR c)
structure LitSt (w0 : World) (T : List Tok) (s : ByteArray) (g : Nat) (w : World) (n : Nat) (k : Int) (v : Value) (acc : List Term) (w' : World) : Prop where
 p : PAt w0 T s w' g n
 f : Fr (fun q => q = g) w w'
 l : w'.heap[w.heap.size + 1]? = some (.cells (litC k Term.z noStr v []) 28 (0, 0))
 d : w'.heap[w.heap.size]? = some (.cells (litC 0 Term.z noStr (.slice none 0 0) []) 28 (0, 0))
 r : Kd.R kTerm 25 w' (w.heap.size + 2) (fun q => w.heap.size + 2 ≤ q) v acc
 z : w.heap.size + 2 ≤ w'.heap.size
 b : Bel w0 w'
section
variable {w0 w w' : World} {T : List Tok} {s : ByteArray} {g n : Nat} {k : Int} {v : Value} {acc : List Term}
theorem LitSt.drawn (h : LitSt w0 T s g w n k v acc w') {w'' : World} (hd : Drawn0 w' w'') : LitSt w0 T s g w n k v acc w'' :=
 ⟨h.p.drawn hd, h.f.drawn hd, blk_drawn h.l hd, blk_drawn h.d hd, ((Fr.refl (fun _ => False) w').drawn hd).R h.r (fun _ _ => id), by rw [drawn_size hd]; exact h.z, bel_drawn h.b hd⟩
theorem LitSt.to (h : LitSt w0 T s g w n k v acc w') (hg : g < w.heap.size) (m : Nat) (x : Int) (hx : x = m) (hm : m ≤ T.length) : LitSt w0 T s g w m k v acc (w'.setCell ⟨g, 2, none⟩ (.int .i64 x)) :=
 ⟨h.p.to m x hx hm, h.f.set _ (Or.inl rfl) _, blk_far h.l (by simp; omega), blk_far h.d (by simp; omega), Kd.R_far (p := ⟨g, 2, none⟩) h.r (fun q hq e => by have : q = g := e; omega) _, by have := h.z; simp; omega, h.b.setCell (p := ⟨g, 2, none⟩) h.p.ge _⟩
theorem LitSt.kind (h : LitSt w0 T s g w n k v acc w') (hg : g < w.heap.size) (h0 : w0.heap.size ≤ w.heap.size) (x : Int) : LitSt w0 T s g w n x v acc (w'.setCell ⟨w.heap.size + 1, 0, none⟩ (.int .u8 x)) :=
 ⟨h.p.far (by simp; omega), h.f.set _ (Or.inr (by simp)) _, litC_kind x h.l, blk_far h.d (by simp), Kd.R_far (p := ⟨w.heap.size + 1, 0, none⟩) h.r (fun q hq e => by have : q = w.heap.size + 1 := e; omega) _, by have := h.z; simp; omega, h.b.setCell (p := ⟨w.heap.size + 1, 0, none⟩) (by simp; omega) _⟩
theorem LitSt.app {v' : Value} {acc' : List Term} {n' : Nat} {w5 : World} (hB : Bel w0 w) (hg : g < w.heap.size) (h0 : w0.heap.size ≤ g) (hP : PAt w0 T s w5 g n') (hF : Fr (fun q => q = g) w w5)
 (hL : w5.heap[w.heap.size + 1]? = some (.cells (litC k Term.z noStr v []) 28 (0, 0))) (hD : w5.heap[w.heap.size]? = some (.cells (litC 0 Term.z noStr (.slice none 0 0) []) 28 (0, 0)))
 (hR : Kd.R kTerm 25 w5 (w.heap.size + 2) (fun q => w.heap.size + 2 ≤ q) v' acc') (hz : w.heap.size + 2 ≤ w5.heap.size) :
 LitSt w0 T s g w n' k v' acc' (w5.setCell ⟨w.heap.size + 1, 5, none⟩ v') := by
 have h1 := hB.size
 exact ⟨hP.far (by simp; omega), hF.set _ (Or.inr (by simp)) _, litC_args _ hL, blk_far hD (by simp), Kd.R_far (p := ⟨w.heap.size + 1, 5, none⟩) hR (fun q hq e => by have : q = w.heap.size + 1 := e; omega) _, by simp; omega,
  (hB.fr hF (fun q hq => Or.inl (by rw [hq]; exact h0))).setCell (p := ⟨w.heap.size + 1, 5, none⟩) (by simp; omega) _⟩
theorem LitSt.start (h : PAt w0 T s w g n) (hB : Bel w0 w) : LitSt w0 T s g w n 1 (.slice none 0 0) [] ((w.alloc (.cells #[.int .u8 0, .string ⟨#[]⟩, .string ⟨#[]⟩, .int .i64 0, .string ⟨#[]⟩, .slice none 0 0] 28)).alloc (.cells #[.int .u8 1, .string ⟨#[]⟩, .string ⟨#[]⟩, .int .i64 0, .string ⟨#[]⟩, .slice none 0 0] 28)) :=
 ⟨(h.alloc _).alloc _, ((Fr.refl _ w).alloc _).alloc _, by
   have h := heap_alloc_new (w.alloc (.cells #[.int .u8 0, .string ⟨#[]⟩, .string ⟨#[]⟩, .int .i64 0, .string ⟨#[]⟩, .slice none 0 0] 28)) (.cells #[.int .u8 1, .string ⟨#[]⟩, .string ⟨#[]⟩, .int .i64 0, .string ⟨#[]⟩, .slice none 0 0] 28)
   rw [show (w.alloc (.cells #[.int .u8 0, .string ⟨#[]⟩, .string ⟨#[]⟩, .int .i64 0, .string ⟨#[]⟩, .slice none 0 0] 28)).heap.size = w.heap.size + 1 by simp] at h
   exact h, blk_alloc (heap_alloc_new w _) _, Kd.R_nil _ _ _ _ _, by simp, Bel.alloc (Bel.alloc hB _) _⟩
end
set_option maxHeartbeats 8000000 in
set_option maxRecDepth 100000 in
theorem second_wp {w0 w w8 : World} {T : List Tok} {s : ByteArray} {g n : Nat} {K : Act → World → Prop} {x4 x5 x6 x7 x8 x20 x21 x22 x23 x24 x25 x26 x27 x28 x29 x30 x31 x32 x33 x34 x35 x36 x37 x38 x39 x40 x41 x42 x43 x44 x45 x46 x47 x48 x49 x50 x51 x52 x53 x54 x55 x56 x57 x58 x59 x60 x61 : Value} (hT : TokOk s T) (hgw : g < w.heap.size) (hg0 : w0.heap.size ≤ g) (hB0 : Aside0 (Bel w0 w)) (hBz : w0.heap.size ≤ w.heap.size) {k : Int} {a : Term} {m : Nat} {v3 : Value} (hlt : m < T.length) (hE3 : Aside0 (literalP T s n = pairP T s k a m)) (hS8 : LitSt w0 T s g w m k v3 [a] w8) :
 Code.wp Tryd.prog (codeR 3 (cL (cR (cL (codeR 5 (Tryd.f61.body.getD .skip)))))) (Exit.then K (bodyPost Tryd.prog Tryd.f61 (PPost w0 T s g (fun q => q = g) w (LitO w) (literalP T s n)))) { tmps := #[.pointer (some ⟨g, 0, none⟩), undef, .pointer (some ⟨w.heap.size, 0, none⟩), .pointer (some ⟨w.heap.size + 1, 0, none⟩), x4, x5, x6, x7, x8, undef, undef, undef, undef, undef, undef, undef, undef, undef, undef, undef, x20, x21, x22, x23, x24, x25, x26, x27, x28, x29, x30, x31, x32, x33, x34, x35, x36, x37, x38, x39, x40, x41, x42, x43, x44, x45, x46, x47, x48, x49, x50, x51, x52, x53, x54, x55, x56, x57, x58, x59, x60, x61, undef, undef, undef, undef, undef, undef, undef, undef, undef, undef, undef, undef, undef, undef, undef, undef, undef, undef], defers := [] } w8 := by
 show Code.wp _ (Code.seq _ _) _ _ _
 replace hS8 := Aside0.mk hS8
 obtain ⟨A1, c1, p0, p1, p2, q2, hm, _, _⟩ := hS8.out.p.cells
 have hmm : (m : Int) ≤ 4096 := by have := hT.1; omega
 go_wp2_with fail
 refine wp_world (fun w' => LitSt w0 T s g w (m + 1) k v3 [a] w') (hS8.out.to hgw (m + 1) ((m : Int) + 1) (by omega) (by omega)) (fun w3 hS3 => ?_)
 replace hS3 := Aside0.mk hS3
 clear hS8 p0 p1 p2 q2
 have hP3 := Aside0.mk hS3.out.p
 have hB3 := Aside0.mk hS3.out.b
 have hF3 := Aside0.mk hS3.out.f
 have hL3 := Aside0.mk hS3.out.l
 have hD3 := Aside0.mk hS3.out.d
 have hR3 := Aside0.mk hS3.out.r
 have hz3 := hS3.out.z
 have c5 : w3.cell? ⟨w.heap.size + 1, 5, none⟩ = some v3 := (blk_cell hL3.out 5).trans rfl
 obtain ⟨r, hr⟩ : ∃ r, r = termP T s (m + 1) := ⟨_, rfl⟩
 cases r with
 | error p =>
   have hE4 := Aside0.mk (show literalP T s n = .error p by rw [hE3.out]; unfold pairP; rw [← hr])
   replace hr := Aside0.mk hr
   refine start_ (n := 8) (S := fun w' => w'.cell? ⟨w.heap.size + 1, 5, none⟩ = some v3) (ds := [7]) #[false,false,false,false,false,false,false,false] rfl rfl rfl c5 (fun hS_ => ?_)
   refine with_tabW rLit17.tab rLit17.bits (fun HT_ HW_ => ?_)
   refine pure_ (i := 0) (N := some 69) (v := ?_) (a' := ?_) #[true,false,false,false,false,false,false,false] rfl rfl (any_of HT_.out (by kernel_rfl)) (fun _ _ _ h => h) (Or.inl ⟨by rfl, ?_⟩) ?_ ?_
   rotate_left; · (intro w'; go_simp; with_reducible rfl)
   rotate_left; · (simp only [Act.put, List.setIfInBounds_toArray, List.set_cons_zero, List.set_cons_succ]; rfl)
   refine take_ (i := 1) (N := some 70) (v := ?_) (a' := ?_) #[true,true,false,false,false,false,false,false] rfl rfl (take_ofW HT_.out HW_.out (by kernel_rfl)) (fun _ _ _ h => h) (Or.inl ⟨by rfl, ?_⟩) hS_ ?_ ?_
   rotate_left; · (rintro w' s0; go_simp; with_reducible rfl)
   rotate_left; · (simp only [Act.put, List.setIfInBounds_toArray, List.set_cons_zero, List.set_cons_succ]; rfl)
   refine pure_ (i := 2) (N := some 71) (v := ?_) (a' := ?_) #[true,true,true,false,false,false,false,false] rfl rfl (any_of HT_.out (by kernel_rfl)) (fun _ _ _ h => h) (Or.inl ⟨by rfl, ?_⟩) ?_ ?_
   rotate_left; · (intro w'; go_simp; with_reducible rfl)
   rotate_left; · (simp only [Act.put, List.setIfInBounds_toArray, List.set_cons_zero, List.set_cons_succ]; rfl)
   refine one_ (i := 3) (N := some 72) #[true,true,true,true,false,false,false,false] rfl rfl (one_of HT_.out (by kernel_rfl)) (by decide) (fun K hK => ?_)
   refine goesP Tryd.func83 (by kernel_rfl) rfl #[.pointer (some ⟨g, 0, none⟩)] (by rfl) rfl rfl (by simp only [List.map_toArray, List.map_cons, List.map_nil]; rfl) ?_
   refine (term_calls (w0 := w0) (T := T) (s := s) (n := m + 1) hP3.out.drew (Bel.drew hB3.out) hT).mono ?_
   rw [← hr.out]
   rintro e w4 ⟨rfl, hF4⟩
   refine .inr ⟨_, rfl, ?_⟩
   refine ⟨rfl, ?_⟩
   rw [hE4.out]
   exact ⟨rfl, hF3.out.drew.trans hF4⟩
 | ok r =>
   obtain ⟨c, j⟩ := r
   have hE4 := Aside0.mk (show literalP T s n = .ok (⟨k, Term.z, noStr, [a, c]⟩, j) by rw [hE3.out]; unfold pairP; rw [← hr])
   replace hr := Aside0.mk hr
   refine start_ (n := 8) (S := fun w' => w'.cell? ⟨w.heap.size + 1, 5, none⟩ = some v3) (ds := [7]) #[false,false,false,false,false,false,false,false] rfl rfl rfl c5 (fun hS_ => ?_)
   refine with_tabW rLit17.tab rLit17.bits (fun HT_ HW_ => ?_)
   refine pure_ (i := 0) (N := some 69) (v := ?_) (a' := ?_) #[true,false,false,false,false,false,false,false] rfl rfl (any_of HT_.out (by kernel_rfl)) (fun _ _ _ h => h) (Or.inl ⟨by rfl, ?_⟩) ?_ ?_
   rotate_left; · (intro w'; go_simp; with_reducible rfl)
   rotate_left; · (simp only [Act.put, List.setIfInBounds_toArray, List.set_cons_zero, List.set_cons_succ]; rfl)
   refine take_ (i := 1) (N := some 70) (v := ?_) (a' := ?_) #[true,true,false,false,false,false,false,false] rfl rfl (take_ofW HT_.out HW_.out (by kernel_rfl)) (fun _ _ _ h => h) (Or.inl ⟨by rfl, ?_⟩) hS_ ?_ ?_
   rotate_left; · (rintro w' s0; go_simp; with_reducible rfl)
   rotate_left; · (simp only [Act.put, List.setIfInBounds_toArray, List.set_cons_zero, List.set_cons_succ]; rfl)
   refine pure_ (i := 2) (N := some 71) (v := ?_) (a' := ?_) #[true,true,true,false,false,false,false,false] rfl rfl (any_of HT_.out (by kernel_rfl)) (fun _ _ _ h => h) (Or.inl ⟨by rfl, ?_⟩) ?_ ?_
   rotate_left; · (intro w'; go_simp; with_reducible rfl)
   rotate_left; · (simp only [Act.put, List.setIfInBounds_toArray, List.set_cons_zero, List.set_cons_succ]; rfl)
   refine one_ (i := 3) (N := some 72) #[true,true,true,true,false,false,false,false] rfl rfl (one_of HT_.out (by kernel_rfl)) (by decide) (fun K hK => ?_)
   refine goesP Tryd.func83 (by kernel_rfl) rfl #[.pointer (some ⟨g, 0, none⟩)] (by rfl) rfl rfl (by simp only [List.map_toArray, List.map_cons, List.map_nil]; rfl) ?_
   refine (term_calls (w0 := w0) (T := T) (s := s) (n := m + 1) hP3.out.drew (Bel.drew hB3.out) hT).mono ?_
   rw [← hr.out]
   rintro e w4 ⟨⟨v1, rfl, rfl⟩, hP4, hF4⟩
   refine .inl ⟨_, rfl, ?_⟩
   refine hK.out _ _ (hF4.cell (p := ⟨w.heap.size + 1, 5, none⟩) hS_ (by simp; omega)) (fun hS_ => ?_)
   clear hK K
   refine norm_ (a' := ?_) ?_ ?_
   rotate_left; · (show Act.put _ (some 72) _ = _; simp only [Act.put, List.setIfInBounds_toArray, List.set_cons_zero, List.set_cons_succ]; rfl)
   refine one_ (i := 4) (N := some 73) #[true,true,true,true,true,false,false,false] rfl rfl (one_of HT_.out (by kernel_rfl)) (by decide) (fun K hK => ?_)
   refine value_ (w1 := ?_) (v := ?_) (by rfl) rfl ?_ ?_
   rotate_left 2; · (go_simp; constructor; rfl; rfl)
   refine hK.out _ _ (cell_alloc hS_ _) (fun hS_ => ?_)
   clear hK K
   refine norm_ (a' := ?_) ?_ ?_
   rotate_left; · (show Act.put _ (some 73) _ = _; simp only [Act.put, List.setIfInBounds_toArray, List.set_cons_zero, List.set_cons_succ]; rfl)
   refine one_ (i := 5) (N := some 74) #[true,true,true,true,true,true,false,false] rfl rfl (one_of HT_.out (by kernel_rfl)) (by decide) (fun K hK => ?_)
   refine Kd.R_append_step kTerm (w0 := w4) (w.heap.size + 2) (by rfl) (.tmp 70) (.tmp 73) 26 25 (.agg #[.string ⟨#[]⟩, .string ⟨#[]⟩, .int .i64 0]) 40 (by rfl) Tryd.underlying26 info_term (by rfl) (by decide) (by omega) v3 [a] c [.string c.var, .string c.val.sym, .int .i64 c.val.num] (fun q => w.heap.size + 2 ≤ q) (fun _ => False) (by rfl) (by rfl) (kTerm_mkM _ _ _ c) (fun _ hk => hk.elim) (fun _ hk => Nat.le_trans (Nat.le_trans hz3 hF4.size) hk) (hF4.R (Kd.R_drew hR3.out) (fun q hq e => by have : q = g := e; omega)) (Below.refl _ _) (Nat.le_trans hz3 hF4.size) (by simp) ?_
   intro v5 w5 hR5 hB5 hg5 hat5
   obtain ⟨gg, cap, rfl, hgg⟩ := Kd.R_form hR5 (by simp)
   have bk5 : ∀ x o, w3.heap[x]? = some o → x ≠ g → x < w.heap.size + 2 → w5.heap[x]? = some o := fun x o ho hx hxB => (hg5.block x (Nat.lt_of_lt_of_le (blk_lt ho) hF4.size) (fun e => absurd (hR3.out.1 x e.symm) (Nat.not_le.mpr hxB))).trans (hF4.blk (blk_drew ho) hx)
   have hL5 := Aside0.mk (bk5 _ _ hL3.out (by omega) (by omega))
   have hD5 := Aside0.mk (bk5 _ _ hD3.out (by omega) (by omega))
   have hg5g : w5.heap[g]? = w4.heap[g]? := hg5.block g hP4.lt (fun e => absurd (hR3.out.1 g e.symm) (by omega))
   have hP5 : Aside0 (PAt w0 T s w5 g _) := ⟨by obtain ⟨A, c, hx, rr⟩ := hP4; exact ⟨A, c, hg5g.trans hx, rr⟩⟩
   have hF5 := Aside0.mk ((hF3.out.drew.trans hF4).step (Fr.of_grown hg5 (S := fun q => w.heap.size + 2 ≤ q) (fun q e => Or.inl (hR3.out.1 q e))) (fun q hq => Or.inr (by omega)))
   have hz5 : w4.heap.size ≤ w5.heap.size := hg5.size
   have hR5 := Aside0.mk hR5
   clear bk5 hg5g hg5 hB5 hat5 hgg
   refine hK.out _ _ ((blk_cell hL5.out 5).trans rfl) (fun hS_ => ?_)
   clear hK K
   refine norm_ (a' := ?_) ?_ ?_
   rotate_left; · (show Act.put _ (some 74) _ = _; simp only [Act.put, List.setIfInBounds_toArray, List.set_cons_zero, List.set_cons_succ]; rfl)
   refine pure_ (i := 6) (N := some 75) (v := ?_) (a' := ?_) #[true,true,true,true,true,true,true,false] rfl rfl (any_of HT_.out (by kernel_rfl)) (fun _ _ _ h => h) (Or.inl ⟨by rfl, ?_⟩) ?_ ?_
   rotate_left; · (intro w'; go_simp; with_reducible rfl)
   rotate_left; · (simp only [Act.put, List.setIfInBounds_toArray, List.set_cons_zero, List.set_cons_succ]; rfl)
   refine last_ (i := 7) (N := none) #[true,true,true,true,true,true,true,true] rfl rfl (one_of HT_.out (by kernel_rfl)) (by decide) (fun K hK => ?_)
   have e5 : w5.cell? ⟨w.heap.size + 1, 5, none⟩ = some v3 := (blk_cell hL5.out 5).trans rfl
   have f5 : w5.frozen? ⟨w.heap.size + 1, 5, none⟩ = false := blk_frozen hL5.out 5
   refine skip_ (w1 := ?_) (by rfl) rfl ?_ ?_
   rotate_left; · (go_simp; rfl)
   refine hK.out _ _ ?_
   clear hK K
   refine wpAnyLast_done (by kernel_rfl) ?_ _
   have hS5 := LitSt.app hB0.out hgw hg0 hP5.out hF5.out hL5.out hD5.out hR5.out (Nat.le_trans (Nat.le_trans hz3 hF4.size) hz5)
   refine then_world (fun w' => LitSt w0 T s g w j k _ [a, c] w') hS5 (fun w3 hS3 => ?_)
   replace hS3 := Aside0.mk hS3
   have hz9 := blk_lt hS3.out.d
   have e0 : w3.cell? ⟨w.heap.size + 1, 0, none⟩ = some (.int .u8 (⟨k, Term.z, noStr, [a, c]⟩ : Lit).kind) := (blk_cell hS3.out.l 0).trans rfl
   have e1 : w3.cell? ⟨w.heap.size + 1, 1, none⟩ = some (.string (⟨k, Term.z, noStr, [a, c]⟩ : Lit).who.var) := (blk_cell hS3.out.l 1).trans rfl
   have e2 : w3.cell? ⟨w.heap.size + 1, 2, none⟩ = some (.string (⟨k, Term.z, noStr, [a, c]⟩ : Lit).who.val.sym) := (blk_cell hS3.out.l 2).trans rfl
   have e3 : w3.cell? ⟨w.heap.size + 1, 3, none⟩ = some (.int .i64 (⟨k, Term.z, noStr, [a, c]⟩ : Lit).who.val.num) := (blk_cell hS3.out.l 3).trans rfl
   have e4 : w3.cell? ⟨w.heap.size + 1, 4, none⟩ = some (.string (⟨k, Term.z, noStr, [a, c]⟩ : Lit).pred) := (blk_cell hS3.out.l 4).trans rfl
   have e5 : w3.cell? ⟨w.heap.size + 1, 5, none⟩ = some (.slice (some ⟨gg, 0, none⟩) 2 cap) := (blk_cell hS3.out.l 5).trans rfl
   have d0 : w3.cell? ⟨w.heap.size, 0, none⟩ = some (.int .u8 0) := (blk_cell hS3.out.d 0).trans rfl
   have d1 : w3.cell? ⟨w.heap.size, 1, none⟩ = some (.string ⟨#[]⟩) := (blk_cell hS3.out.d 1).trans rfl
   have d2 : w3.cell? ⟨w.heap.size, 2, none⟩ = some (.string ⟨#[]⟩) := (blk_cell hS3.out.d 2).trans rfl
   have d3 : w3.cell? ⟨w.heap.size, 3, none⟩ = some (.int .i64 0) := (blk_cell hS3.out.d 3).trans rfl
   have d4 : w3.cell? ⟨w.heap.size, 4, none⟩ = some (.string ⟨#[]⟩) := (blk_cell hS3.out.d 4).trans rfl
   have d5 : w3.cell? ⟨w.heap.size, 5, none⟩ = some (.slice none 0 0) := (blk_cell hS3.out.d 5).trans rfl
   have f0 := blk_frozen hS3.out.d 0
   have f1 := blk_frozen hS3.out.d 1
   have f2 := blk_frozen hS3.out.d 2
   have f3 := blk_frozen hS3.out.d 3
   have f4 := blk_frozen hS3.out.d 4
   have f5 := blk_frozen hS3.out.d 5
   go_wp2
   exact lit_end (l := ⟨k, Term.z, noStr, [a, c]⟩) (av := .slice (some ⟨gg, 0, none⟩) 2 cap) rfl rfl hS3.out.d (Kd.R_lower hS3.out.r (by omega)) hS3.out.p hS3.out.f hgw hE4.out
set_option maxHeartbeats 8000000 in
set_option maxRecDepth 100000 in
theorem pair_wp {w0 w w2 : World} {T : List Tok} {s : ByteArray} {g n : Nat} {K : Act → World → Prop} {x4 x5 x6 x7 x8 x20 x21 x22 x23 x24 x25 x26 x27 x28 x29 x30 x31 x32 x33 x34 x35 x36 x37 x38 x39 x40 x41 x42 x43 x44 x45 : Value} (hT : TokOk s T) (hgw : g < w.heap.size) (hg0 : w0.heap.size ≤ g) (hB0 : Aside0 (Bel w0 w)) (hBz : w0.heap.size ≤ w.heap.size) (hmx : n ≤ 9223372036854775807) (hE : Aside0 (literalP T s n = match termP T s n with | .error p => .error p | .ok (a, m) => if isT T s m unlike then pairP T s 4 a m else if isT T s m less then pairP T s 3 a m else .error (posOf T s m, 6))) (hS : LitSt w0 T s g w n 1 (.slice none 0 0) [] w2) :
 Code.wp Tryd.prog (cL (cR (cL (codeR 5 (Tryd.f61.body.getD .skip))))) (Exit.then K (bodyPost Tryd.prog Tryd.f61 (PPost w0 T s g (fun q => q = g) w (LitO w) (literalP T s n)))) { tmps := #[.pointer (some ⟨g, 0, none⟩), undef, .pointer (some ⟨w.heap.size, 0, none⟩), .pointer (some ⟨w.heap.size + 1, 0, none⟩), x4, x5, x6, x7, x8, undef, undef, undef, undef, undef, undef, undef, undef, undef, undef, undef, x20, x21, x22, x23, x24, x25, x26, x27, x28, x29, x30, x31, x32, x33, x34, x35, x36, x37, x38, x39, x40, x41, x42, x43, x44, x45, undef, undef, undef, undef, undef, undef, undef, undef, undef, undef, undef, undef, undef, undef, undef, undef, undef, undef, undef, undef, undef, undef, undef, undef, undef, undef, undef, undef, undef, undef, undef, undef, undef, undef], defers := [] } w2 := by
 show Code.wp _ (Code.seq _ _) _ _ _
 replace hS := Aside0.mk hS
 have e0 : w2.cell? ⟨w.heap.size + 1, 0, none⟩ = some (.int .u8 1) := (blk_cell hS.out.l 0).trans rfl
 have f0 := blk_frozen hS.out.l 0
 go_wp2_with fail
 obtain ⟨v3, hv3⟩ : ∃ v3, v3 = Value.slice none 0 0 := ⟨_, rfl⟩
 refine wp_world (fun w' => LitSt w0 T s g w n 3 v3 [] w') (by rw [hv3]; exact hS.out.kind hgw hBz 3) (fun w3 hS3 => ?_)
 replace hS3 := Aside0.mk hS3
 clear hS e0 f0 hv3
 have hP3 := Aside0.mk hS3.out.p
 have hB3 := Aside0.mk hS3.out.b
 have hF3 := Aside0.mk hS3.out.f
 have hL3 := Aside0.mk hS3.out.l
 have hD3 := Aside0.mk hS3.out.d
 have hR3 := Aside0.mk hS3.out.r
 have hz3 := hS3.out.z
 have c5 : w3.cell? ⟨w.heap.size + 1, 5, none⟩ = some v3 := (blk_cell hL3.out 5).trans rfl
 obtain ⟨r, hr⟩ : ∃ r, r = termP T s n := ⟨_, rfl⟩
 cases r with
 | error p =>
   have hE2 := Aside0.mk (show literalP T s n = .error p by rw [hE.out, ← hr])
   replace hr := Aside0.mk hr
   refine start_ (n := 8) (S := fun w' => w'.cell? ⟨w.heap.size + 1, 5, none⟩ = some v3) (ds := [7]) #[false,false,false,false,false,false,false,false] rfl rfl rfl c5 (fun hS_ => ?_)
   refine with_tabW rLit11.tab rLit11.bits (fun HT_ HW_ => ?_)
   refine pure_ (i := 0) (N := some 47) (v := ?_) (a' := ?_) #[true,false,false,false,false,false,false,false] rfl rfl (any_of HT_.out (by kernel_rfl)) (fun _ _ _ h => h) (Or.inl ⟨by rfl, ?_⟩) ?_ ?_
   rotate_left; · (intro w'; go_simp; with_reducible rfl)
   rotate_left; · (simp only [Act.put, List.setIfInBounds_toArray, List.set_cons_zero, List.set_cons_succ]; rfl)
   refine take_ (i := 1) (N := some 48) (v := ?_) (a' := ?_) #[true,true,false,false,false,false,false,false] rfl rfl (take_ofW HT_.out HW_.out (by kernel_rfl)) (fun _ _ _ h => h) (Or.inl ⟨by rfl, ?_⟩) hS_ ?_ ?_
   rotate_left; · (rintro w' s0; go_simp; with_reducible rfl)
   rotate_left; · (simp only [Act.put, List.setIfInBounds_toArray, List.set_cons_zero, List.set_cons_succ]; rfl)
   refine pure_ (i := 2) (N := some 49) (v := ?_) (a' := ?_) #[true,true,true,false,false,false,false,false] rfl rfl (any_of HT_.out (by kernel_rfl)) (fun _ _ _ h => h) (Or.inl ⟨by rfl, ?_⟩) ?_ ?_
   rotate_left; · (intro w'; go_simp; with_reducible rfl)
   rotate_left; · (simp only [Act.put, List.setIfInBounds_toArray, List.set_cons_zero, List.set_cons_succ]; rfl)
   refine one_ (i := 3) (N := some 50) #[true,true,true,true,false,false,false,false] rfl rfl (one_of HT_.out (by kernel_rfl)) (by decide) (fun K hK => ?_)
   refine goesP Tryd.func83 (by kernel_rfl) rfl #[.pointer (some ⟨g, 0, none⟩)] (by rfl) rfl rfl (by simp only [List.map_toArray, List.map_cons, List.map_nil]; rfl) ?_
   refine (term_calls (w0 := w0) (T := T) (s := s) (n := n) hP3.out.drew (Bel.drew hB3.out) hT).mono ?_
   rw [← hr.out]
   rintro e w4 ⟨rfl, hF4⟩
   refine .inr ⟨_, rfl, ?_⟩
   refine ⟨rfl, ?_⟩
   rw [hE2.out]
   exact ⟨rfl, hF3.out.drew.trans hF4⟩
 | ok r =>
   obtain ⟨a, m⟩ := r
   have hE2 := Aside0.mk (show literalP T s n = if isT T s m unlike then pairP T s 4 a m else if isT T s m less then pairP T s 3 a m else .error (posOf T s m, 6) by rw [hE.out, ← hr])
   replace hr := Aside0.mk hr
   refine start_ (n := 8) (S := fun w' => w'.cell? ⟨w.heap.size + 1, 5, none⟩ = some v3) (ds := [7]) #[false,false,false,false,false,false,false,false] rfl rfl rfl c5 (fun hS_ => ?_)
   refine with_tabW rLit11.tab rLit11.bits (fun HT_ HW_ => ?_)
   refine pure_ (i := 0) (N := some 47) (v := ?_) (a' := ?_) #[true,false,false,false,false,false,false,false] rfl rfl (any_of HT_.out (by kernel_rfl)) (fun _ _ _ h => h) (Or.inl ⟨by rfl, ?_⟩) ?_ ?_
   rotate_left; · (intro w'; go_simp; with_reducible rfl)
   rotate_left; · (simp only [Act.put, List.setIfInBounds_toArray, List.set_cons_zero, List.set_cons_succ]; rfl)
   refine take_ (i := 1) (N := some 48) (v := ?_) (a' := ?_) #[true,true,false,false,false,false,false,false] rfl rfl (take_ofW HT_.out HW_.out (by kernel_rfl)) (fun _ _ _ h => h) (Or.inl ⟨by rfl, ?_⟩) hS_ ?_ ?_
   rotate_left; · (rintro w' s0; go_simp; with_reducible rfl)
   rotate_left; · (simp only [Act.put, List.setIfInBounds_toArray, List.set_cons_zero, List.set_cons_succ]; rfl)
   refine pure_ (i := 2) (N := some 49) (v := ?_) (a' := ?_) #[true,true,true,false,false,false,false,false] rfl rfl (any_of HT_.out (by kernel_rfl)) (fun _ _ _ h => h) (Or.inl ⟨by rfl, ?_⟩) ?_ ?_
   rotate_left; · (intro w'; go_simp; with_reducible rfl)
   rotate_left; · (simp only [Act.put, List.setIfInBounds_toArray, List.set_cons_zero, List.set_cons_succ]; rfl)
   refine one_ (i := 3) (N := some 50) #[true,true,true,true,false,false,false,false] rfl rfl (one_of HT_.out (by kernel_rfl)) (by decide) (fun K hK => ?_)
   refine goesP Tryd.func83 (by kernel_rfl) rfl #[.pointer (some ⟨g, 0, none⟩)] (by rfl) rfl rfl (by simp only [List.map_toArray, List.map_cons, List.map_nil]; rfl) ?_
   refine (term_calls (w0 := w0) (T := T) (s := s) (n := n) hP3.out.drew (Bel.drew hB3.out) hT).mono ?_
   rw [← hr.out]
   rintro e w4 ⟨⟨v1, rfl, rfl⟩, hP4, hF4⟩
   refine .inl ⟨_, rfl, ?_⟩
   refine hK.out _ _ (hF4.cell (p := ⟨w.heap.size + 1, 5, none⟩) hS_ (by simp; omega)) (fun hS_ => ?_)
   clear hK K
   refine norm_ (a' := ?_) ?_ ?_
   rotate_left; · (show Act.put _ (some 50) _ = _; simp only [Act.put, List.setIfInBounds_toArray, List.set_cons_zero, List.set_cons_succ]; rfl)
   refine one_ (i := 4) (N := some 51) #[true,true,true,true,true,false,false,false] rfl rfl (one_of HT_.out (by kernel_rfl)) (by decide) (fun K hK => ?_)
   refine value_ (w1 := ?_) (v := ?_) (by rfl) rfl ?_ ?_
   rotate_left 2; · (go_simp; constructor; rfl; rfl)
   refine hK.out _ _ (cell_alloc hS_ _) (fun hS_ => ?_)
   clear hK K
   refine norm_ (a' := ?_) ?_ ?_
   rotate_left; · (show Act.put _ (some 51) _ = _; simp only [Act.put, List.setIfInBounds_toArray, List.set_cons_zero, List.set_cons_succ]; rfl)
   refine one_ (i := 5) (N := some 52) #[true,true,true,true,true,true,false,false] rfl rfl (one_of HT_.out (by kernel_rfl)) (by decide) (fun K hK => ?_)
   refine Kd.R_append_step kTerm (w0 := w4) (w.heap.size + 2) (by rfl) (.tmp 48) (.tmp 51) 26 25 (.agg #[.string ⟨#[]⟩, .string ⟨#[]⟩, .int .i64 0]) 40 (by rfl) Tryd.underlying26 info_term (by rfl) (by decide) (by omega) v3 [] a [.string a.var, .string a.val.sym, .int .i64 a.val.num] (fun q => w.heap.size + 2 ≤ q) (fun _ => False) (by rfl) (by rfl) (kTerm_mkM _ _ _ a) (fun _ hk => hk.elim) (fun _ hk => Nat.le_trans (Nat.le_trans hz3 hF4.size) hk) (hF4.R (Kd.R_drew hR3.out) (fun q hq e => by have : q = g := e; omega)) (Below.refl _ _) (Nat.le_trans hz3 hF4.size) (by simp) ?_
   intro v5 w5 hR5 hB5 hg5 hat5
   obtain ⟨gg, cap, rfl, hgg⟩ := Kd.R_form hR5 (by simp)
   have bk5 : ∀ x o, w3.heap[x]? = some o → x ≠ g → x < w.heap.size + 2 → w5.heap[x]? = some o := fun x o ho hx hxB => (hg5.block x (Nat.lt_of_lt_of_le (blk_lt ho) hF4.size) (fun e => absurd (hR3.out.1 x e.symm) (Nat.not_le.mpr hxB))).trans (hF4.blk (blk_drew ho) hx)
   have hL5 := Aside0.mk (bk5 _ _ hL3.out (by omega) (by omega))
   have hD5 := Aside0.mk (bk5 _ _ hD3.out (by omega) (by omega))
   have hg5g : w5.heap[g]? = w4.heap[g]? := hg5.block g hP4.lt (fun e => absurd (hR3.out.1 g e.symm) (by omega))
   have hP5 : Aside0 (PAt w0 T s w5 g _) := ⟨by obtain ⟨A, c, hx, rr⟩ := hP4; exact ⟨A, c, hg5g.trans hx, rr⟩⟩
   have hF5 := Aside0.mk ((hF3.out.drew.trans hF4).step (Fr.of_grown hg5 (S := fun q => w.heap.size + 2 ≤ q) (fun q e => Or.inl (hR3.out.1 q e))) (fun q hq => Or.inr (by omega)))
   have hz5 : w4.heap.size ≤ w5.heap.size := hg5.size
   have hR5 := Aside0.mk hR5
   clear bk5 hg5g hg5 hB5 hat5 hgg
   refine hK.out _ _ ((blk_cell hL5.out 5).trans rfl) (fun hS_ => ?_)
   clear hK K
   refine norm_ (a' := ?_) ?_ ?_
   rotate_left; · (show Act.put _ (some 52) _ = _; simp only [Act.put, List.setIfInBounds_toArray, List.set_cons_zero, List.set_cons_succ]; rfl)
   refine pure_ (i := 6) (N := some 53) (v := ?_) (a' := ?_) #[true,true,true,true,true,true,true,false] rfl rfl (any_of HT_.out (by kernel_rfl)) (fun _ _ _ h => h) (Or.inl ⟨by rfl, ?_⟩) ?_ ?_
   rotate_left; · (intro w'; go_simp; with_reducible rfl)
   rotate_left; · (simp only [Act.put, List.setIfInBounds_toArray, List.set_cons_zero, List.set_cons_succ]; rfl)
   refine last_ (i := 7) (N := none) #[true,true,true,true,true,true,true,true] rfl rfl (one_of HT_.out (by kernel_rfl)) (by decide) (fun K hK => ?_)
   have e5 : w5.cell? ⟨w.heap.size + 1, 5, none⟩ = some v3 := (blk_cell hL5.out 5).trans rfl
   have f5 : w5.frozen? ⟨w.heap.size + 1, 5, none⟩ = false := blk_frozen hL5.out 5
   refine skip_ (w1 := ?_) (by rfl) rfl ?_ ?_
   rotate_left; · (go_simp; rfl)
   refine hK.out _ _ ?_
   clear hK K
   refine wpAnyLast_done (by kernel_rfl) ?_ _
   have hS5 := LitSt.app hB0.out hgw hg0 hP5.out hF5.out hL5.out hD5.out hR5.out (Nat.le_trans (Nat.le_trans hz3 hF4.size) hz5)
   refine then_world (fun w' => LitSt w0 T s g w m 3 _ [a] w') hS5 (fun w3 hS3 => ?_)
   replace hS3 := Aside0.mk hS3
   have hmx := hS3.out.p.max
   clear hP3 hB3 hF3 hL3 hD3 hR3 hr hP4 hF4 hP5 hF5 hL5 hD5 hR5 hS_ HT_ HW_ c5
   cases hu : isT T s m unlike
   · cases hl : isT T s m less
     · have hE3 := Aside0.mk (show literalP T s n = .error (posOf T s m, 6) by rw [hE2.out, hu, hl]; rfl)
       replace hu := Aside0.mk hu
       replace hl := Aside0.mk hl
       go_wp2_with fail
       refine (is_calls 0 m unlike (by omega) hS3.out.p hS3.out.b hT (by omega)).mono ?_; rintro e w7 ⟨rfl, hd⟩
       rw [hu.out]
       have hS7 := Aside0.mk (hS3.out.drawn hd)
       clear hd hS3
       go_wp2_with fail
       refine (is_calls 0 m less (by omega) hS7.out.p hS7.out.b hT (by omega)).mono ?_; rintro e w8 ⟨rfl, hd⟩
       rw [hl.out]
       have hS8 := Aside0.mk (hS7.out.drawn hd)
       clear hd hS7
       go_wp2_with fail
       refine (fail_calls 6 hS8.out.p hS8.out.b).mono ?_; rintro e w9 ⟨rfl, hd⟩
       go_wp2
       refine ⟨rfl, ?_⟩
       rw [hE3.out]
       exact ⟨rfl, hS8.out.f.drawn hd⟩
     · have hE3 := Aside0.mk (show literalP T s n = pairP T s 3 a m by rw [hE2.out, hu, hl]; rfl)
       have hlt := isT_lt hl
       replace hu := Aside0.mk hu
       replace hl := Aside0.mk hl
       go_wp2_with fail
       refine (is_calls 0 m unlike (by omega) hS3.out.p hS3.out.b hT (by omega)).mono ?_; rintro e w7 ⟨rfl, hd⟩
       rw [hu.out]
       have hS7 := Aside0.mk (hS3.out.drawn hd)
       clear hd hS3
       go_wp2_with fail
       refine (is_calls 0 m less (by omega) hS7.out.p hS7.out.b hT (by omega)).mono ?_; rintro e w8 ⟨rfl, hd⟩
       rw [hl.out]
       have hS8 := Aside0.mk (hS7.out.drawn hd)
       clear hd hS7
       clear hE2
       repeat' ((fail_if_success (with_reducible (show Code.wp _ (Code.seq (Code.region 16 _ _) _) _ _ _))); first | go_values | go_skip | go_guarded | go_step | go_upon | go_back | (simp only [Int.not_lt, Int.not_le] at *; go_simp) | (go_values <;> (try go_simp)) | (go_ite <;> go_prune <;> (try go_simp)))
       exact second_wp hT hgw hg0 hB0 hBz hlt hE3 hS8.out
   · have hE3 := Aside0.mk (show literalP T s n = pairP T s 4 a m by rw [hE2.out, hu]; rfl)
     have hlt := isT_lt hu
     replace hu := Aside0.mk hu
     go_wp2_with fail
     refine (is_calls 0 m unlike (by omega) hS3.out.p hS3.out.b hT (by omega)).mono ?_; rintro e w7 ⟨rfl, hd⟩
     rw [hu.out]
     have hS7 := Aside0.mk (hS3.out.drawn hd)
     clear hd hS3
     have e0 : w7.cell? ⟨w.heap.size + 1, 0, none⟩ = some (.int .u8 3) := (blk_cell hS7.out.l 0).trans rfl
     have f0 := blk_frozen hS7.out.l 0
     clear hE2
     repeat' ((fail_if_success (with_reducible (show Code.wp _ (Code.seq (Code.region 16 _ _) _) _ _ _))); first | go_values | go_skip | go_guarded | go_step | go_upon | go_back | (simp only [Int.not_lt, Int.not_le] at *; go_simp) | (go_values <;> (try go_simp)) | (go_ite <;> go_prune <;> (try go_simp)))
     exact second_wp hT hgw hg0 hB0 hBz hlt hE3 (hS7.out.kind hgw hBz 4)
set_option maxHeartbeats 8000000 in
set_option maxRecDepth 100000 in
theorem said_wp {w0 w w2 : World} {T : List Tok} {s : ByteArray} {g n : Nat} {x4 x5 x6 x7 x8 x20 x21 x22 x23 x24 x25 x26 x27 x28 x29 x30 x31 x32 x33 x34 x35 x36 x37 x38 x39 x40 x41 x42 x43 x44 x45 : Value} (hT : TokOk s T) (hgw : g < w.heap.size) (hg0 : w0.heap.size ≤ g) (hB0 : Aside0 (Bel w0 w)) (hBz : w0.heap.size ≤ w.heap.size) (hE : Aside0 (literalP T s n = saidL 1 (saidP T s n))) (hS : LitSt w0 T s g w n 1 (.slice none 0 0) [] w2) :
 Code.wp Tryd.prog (codeR 6 (Tryd.f61.body.getD .skip)) (bodyPost Tryd.prog Tryd.f61 (PPost w0 T s g (fun q => q = g) w (LitO w) (literalP T s n))) { tmps := #[.pointer (some ⟨g, 0, none⟩), undef, .pointer (some ⟨w.heap.size, 0, none⟩), .pointer (some ⟨w.heap.size + 1, 0, none⟩), x4, x5, x6, x7, x8, undef, undef, undef, undef, undef, undef, undef, undef, undef, undef, undef, x20, x21, x22, x23, x24, x25, x26, x27, x28, x29, x30, x31, x32, x33, x34, x35, x36, x37, x38, x39, x40, x41, x42, x43, x44, x45, undef, undef, undef, undef, undef, undef, undef, undef, undef, undef, undef, undef, undef, undef, undef, undef, undef, undef, undef, undef, undef, undef, undef, undef, undef, undef, undef, undef, undef, undef, undef, undef, undef, undef], defers := [] } w2 := by
 show Code.wp _ (Code.seq _ _) _ _ _
 replace hS := Aside0.mk hS
 go_wp2_with fail
 refine (said_calls (b := w.heap.size + 1) (k := 1) (pred0 := noStr) (rest := []) (ty := 28) hT (by omega) hS.out.p hS.out.b (Or.inl (by omega)) hS.out.l).mono ?_
 intro e w9 hp
 obtain ⟨r, hr⟩ : ∃ r, r = saidP T s n := ⟨_, rfl⟩
 rw [← hr] at hp
 cases r with
 | error p =>
   obtain ⟨rfl, hF9⟩ := hp
   have hE2 := Aside0.mk (show literalP T s n = .error p by rw [hE.out, ← hr]; rfl)
   have hF := hS.out.f
   clear hr
   go_wp2
   refine ⟨rfl, ?_⟩
   rw [hE2.out]
   exact ⟨rfl, hF.step hF9 (fun q hq => by rcases hq with rfl | rfl; exact Or.inl rfl; exact Or.inr (by omega))⟩
 | ok r =>
   obtain ⟨⟨who, x, ts⟩, j⟩ := r
   obtain ⟨rfl, hP9, ⟨v9, hL9, hR9⟩, hF9⟩ := hp
   have hE2 := Aside0.mk (show literalP T s n = .ok (⟨1, who, x, ts⟩, j) by rw [hE.out, ← hr]; rfl)
   obtain ⟨A9, c9, rfl⟩ := Kd.R_slice hR9
   have hD9 := hF9.blk hS.out.d (fun q => by rcases q with q | q <;> omega)
   have hzz := hS.out.z
   replace hR9 := Kd.R_mono (ok' := fun q => w.heap.size + 2 ≤ q) (Kd.R_lower hR9 (by omega : w.heap.size ≤ _)) (fun q hq => by omega)
   replace hF9 := hS.out.f.step hF9 (fun q hq => by rcases hq with rfl | rfl; exact Or.inl rfl; exact Or.inr (by omega))
   clear hr hS
   have e0 : w9.cell? ⟨w.heap.size + 1, 0, none⟩ = some (.int .u8 (⟨1, who, x, ts⟩ : Lit).kind) := (blk_cell hL9 0).trans rfl
   have e1 : w9.cell? ⟨w.heap.size + 1, 1, none⟩ = some (.string (⟨1, who, x, ts⟩ : Lit).who.var) := (blk_cell hL9 1).trans rfl
   have e2 : w9.cell? ⟨w.heap.size + 1, 2, none⟩ = some (.string (⟨1, who, x, ts⟩ : Lit).who.val.sym) := (blk_cell hL9 2).trans rfl
   have e3 : w9.cell? ⟨w.heap.size + 1, 3, none⟩ = some (.int .i64 (⟨1, who, x, ts⟩ : Lit).who.val.num) := (blk_cell hL9 3).trans rfl
   have e4 : w9.cell? ⟨w.heap.size + 1, 4, none⟩ = some (.string (⟨1, who, x, ts⟩ : Lit).pred) := (blk_cell hL9 4).trans rfl
   have e5 : w9.cell? ⟨w.heap.size + 1, 5, none⟩ = some (.slice A9 (⟨1, who, x, ts⟩ : Lit).args.length c9) := (blk_cell hL9 5).trans rfl
   have d0 : w9.cell? ⟨w.heap.size, 0, none⟩ = some (.int .u8 0) := (blk_cell hD9 0).trans rfl
   have d1 : w9.cell? ⟨w.heap.size, 1, none⟩ = some (.string ⟨#[]⟩) := (blk_cell hD9 1).trans rfl
   have d2 : w9.cell? ⟨w.heap.size, 2, none⟩ = some (.string ⟨#[]⟩) := (blk_cell hD9 2).trans rfl
   have d3 : w9.cell? ⟨w.heap.size, 3, none⟩ = some (.int .i64 0) := (blk_cell hD9 3).trans rfl
   have d4 : w9.cell? ⟨w.heap.size, 4, none⟩ = some (.string ⟨#[]⟩) := (blk_cell hD9 4).trans rfl
   have d5 : w9.cell? ⟨w.heap.size, 5, none⟩ = some (.slice none 0 0) := (blk_cell hD9 5).trans rfl
   have f0 := blk_frozen hD9 0
   have f1 := blk_frozen hD9 1
   have f2 := blk_frozen hD9 2
   have f3 := blk_frozen hD9 3
   have f4 := blk_frozen hD9 4
   have f5 := blk_frozen hD9 5
   have hz9 := blk_lt hD9
   have hL9 := Aside0.mk hL9
   have hD9 := Aside0.mk hD9
   have hR9 := Aside0.mk hR9
   have hP9 := Aside0.mk hP9
   have hF9 := Aside0.mk hF9
   go_wp2
   exact lit_end (l := ⟨1, who, x, ts⟩) (av := .slice A9 ts.length c9) rfl rfl hD9.out hR9.out hP9.out hF9.out hgw hE2.out
set_option maxHeartbeats 8000000 in
set_option maxRecDepth 100000 in
theorem literal_calls {w0 : World} {T : List Tok} {s : ByteArray} {g n : Nat} {w : World} (hT : TokOk s T) (h : PAt w0 T s w g n) (hB : Bel w0 w) :
 Calls Tryd.prog 61 #[.pointer (some ⟨g, 0, none⟩)] w (PPost w0 T s g (fun q => q = g) w (LitO w) (literalP T s n)) := by
 have hgw := h.lt
 have hg0 := h.ge
 have hmx := h.max
 have hm1 := h.max1 hT
 have hS := Aside0.mk (LitSt.start h hB)
 have hB0 := Aside0.mk hB
 have hBz := hB.size
 clear h hB
 cases hn : isT T s n nots
 · cases hc : compares T s n
   · have hE := Aside0.mk (show literalP T s n = saidL 1 (saidP T s n) by unfold literalP; rw [hn, hc]; rfl)
     have hcase : ((kindT T n == 3) = false ∧ (kindT T n == 2) = true ∧ isT T s (n + 1) says = true ∧ (kindT T n == 1) = false) ∨ ((kindT T n == 3) = false ∧ (kindT T n == 2) = false ∧ (kindT T n == 1) = false) ∨ ((kindT T n == 3) = false ∧ (kindT T n == 2) = false ∧ (kindT T n == 1) = true ∧ isT T s (n + 1) less = false ∧ isT T s (n + 1) unlike = false) := by
      unfold compares at hc
      cases h3 : kindT T n == 3 <;> cases h2 : kindT T n == 2 <;> cases h1 : kindT T n == 1 <;> cases hy : isT T s (n + 1) says <;> cases hb : isT T s (n + 1) less <;> cases hu : isT T s (n + 1) unlike <;> simp_all
     clear hc
     replace hn := Aside0.mk hn
     have hS0 := hS
     clear hS
     rcases hcase with ⟨hk3, hk2, hy, hk1⟩ | ⟨hk3, hk2, hk1⟩ | ⟨hk3, hk2, hk1, hb1, hu⟩
     · cases hb1 : isT T s (n + 1) less
       · replace hb1 := Aside0.mk hb1
         replace hy := Aside0.mk hy
         go_enter Tryd.func61, Tryd.ntmps61
         go_wp2_with fail
         refine (is_calls 0 n nots (by omega) hS0.out.p hS0.out.b hT (by omega)).mono ?_; rintro e w1 ⟨rfl, hd⟩
         rw [hn.out]
         have hS1 := Aside0.mk (hS0.out.drawn hd)
         clear hd hS0
         go_wp2_with fail
         refine (kind_calls hS1.out.p hS1.out.b).mono ?_; rintro e w2 ⟨rfl, hd⟩
         have hS2 := Aside0.mk (hS1.out.drawn hd)
         clear hd hS1
         go_wp2_with fail
         refine (is_calls 1 (n + 1) less (by omega) hS2.out.p hS2.out.b hT (by omega)).mono ?_; rintro e w3 ⟨rfl, hd⟩
         rw [hb1.out]
         have hS3 := Aside0.mk (hS2.out.drawn hd)
         clear hd hS2
         go_wp2_with fail
         refine (is_calls 1 (n + 1) unlike (by omega) hS3.out.p hS3.out.b hT (by omega)).mono ?_; rintro e w4 ⟨rfl, hd⟩
         have hS4 := Aside0.mk (hS3.out.drawn hd)
         clear hd hS3
         go_wp2_with fail
         refine (is_calls 1 (n + 1) says (by omega) hS4.out.p hS4.out.b hT (by omega)).mono ?_; rintro e w5 ⟨rfl, hd⟩
         rw [hy.out]
         have hS5 := Aside0.mk (hS4.out.drawn hd)
         clear hd hS4
         repeat' ((fail_if_success (with_reducible (show Code.wp _ (Code.seq (Code.region 19 _ _) _) _ _ _))); first | go_values | go_skip | go_guarded | go_step | go_upon | go_back | (simp only [Int.not_lt, Int.not_le] at *; go_simp) | (go_values <;> (try go_simp)) | (go_ite <;> go_prune <;> (try go_simp)))
         exact said_wp hT hgw hg0 hB0 hBz hE hS5.out
       · replace hb1 := Aside0.mk hb1
         replace hy := Aside0.mk hy
         go_enter Tryd.func61, Tryd.ntmps61
         go_wp2_with fail
         refine (is_calls 0 n nots (by omega) hS0.out.p hS0.out.b hT (by omega)).mono ?_; rintro e w1 ⟨rfl, hd⟩
         rw [hn.out]
         have hS1 := Aside0.mk (hS0.out.drawn hd)
         clear hd hS0
         go_wp2_with fail
         refine (kind_calls hS1.out.p hS1.out.b).mono ?_; rintro e w2 ⟨rfl, hd⟩
         have hS2 := Aside0.mk (hS1.out.drawn hd)
         clear hd hS1
         go_wp2_with fail
         refine (is_calls 1 (n + 1) less (by omega) hS2.out.p hS2.out.b hT (by omega)).mono ?_; rintro e w3 ⟨rfl, hd⟩
         rw [hb1.out]
         have hS3 := Aside0.mk (hS2.out.drawn hd)
         clear hd hS2
         go_wp2_with fail
         refine (is_calls 1 (n + 1) says (by omega) hS3.out.p hS3.out.b hT (by omega)).mono ?_; rintro e w4 ⟨rfl, hd⟩
         rw [hy.out]
         have hS4 := Aside0.mk (hS3.out.drawn hd)
         clear hd hS3
         repeat' ((fail_if_success (with_reducible (show Code.wp _ (Code.seq (Code.region 19 _ _) _) _ _ _))); first | go_values | go_skip | go_guarded | go_step | go_upon | go_back | (simp only [Int.not_lt, Int.not_le] at *; go_simp) | (go_values <;> (try go_simp)) | (go_ite <;> go_prune <;> (try go_simp)))
         exact said_wp hT hgw hg0 hB0 hBz hE hS4.out
     · cases hb1 : isT T s (n + 1) less
       · replace hb1 := Aside0.mk hb1
         go_enter Tryd.func61, Tryd.ntmps61
         go_wp2_with fail
         refine (is_calls 0 n nots (by omega) hS0.out.p hS0.out.b hT (by omega)).mono ?_; rintro e w1 ⟨rfl, hd⟩
         rw [hn.out]
         have hS1 := Aside0.mk (hS0.out.drawn hd)
         clear hd hS0
         go_wp2_with fail
         refine (kind_calls hS1.out.p hS1.out.b).mono ?_; rintro e w2 ⟨rfl, hd⟩
         have hS2 := Aside0.mk (hS1.out.drawn hd)
         clear hd hS1
         go_wp2_with fail
         refine (is_calls 1 (n + 1) less (by omega) hS2.out.p hS2.out.b hT (by omega)).mono ?_; rintro e w3 ⟨rfl, hd⟩
         rw [hb1.out]
         have hS3 := Aside0.mk (hS2.out.drawn hd)
         clear hd hS2
         go_wp2_with fail
         refine (is_calls 1 (n + 1) unlike (by omega) hS3.out.p hS3.out.b hT (by omega)).mono ?_; rintro e w4 ⟨rfl, hd⟩
         have hS4 := Aside0.mk (hS3.out.drawn hd)
         clear hd hS3
         repeat' ((fail_if_success (with_reducible (show Code.wp _ (Code.seq (Code.region 19 _ _) _) _ _ _))); first | go_values | go_skip | go_guarded | go_step | go_upon | go_back | (simp only [Int.not_lt, Int.not_le] at *; go_simp) | (go_values <;> (try go_simp)) | (go_ite <;> go_prune <;> (try go_simp)))
         exact said_wp hT hgw hg0 hB0 hBz hE hS4.out
       · replace hb1 := Aside0.mk hb1
         go_enter Tryd.func61, Tryd.ntmps61
         go_wp2_with fail
         refine (is_calls 0 n nots (by omega) hS0.out.p hS0.out.b hT (by omega)).mono ?_; rintro e w1 ⟨rfl, hd⟩
         rw [hn.out]
         have hS1 := Aside0.mk (hS0.out.drawn hd)
         clear hd hS0
         go_wp2_with fail
         refine (kind_calls hS1.out.p hS1.out.b).mono ?_; rintro e w2 ⟨rfl, hd⟩
         have hS2 := Aside0.mk (hS1.out.drawn hd)
         clear hd hS1
         go_wp2_with fail
         refine (is_calls 1 (n + 1) less (by omega) hS2.out.p hS2.out.b hT (by omega)).mono ?_; rintro e w3 ⟨rfl, hd⟩
         rw [hb1.out]
         have hS3 := Aside0.mk (hS2.out.drawn hd)
         clear hd hS2
         repeat' ((fail_if_success (with_reducible (show Code.wp _ (Code.seq (Code.region 19 _ _) _) _ _ _))); first | go_values | go_skip | go_guarded | go_step | go_upon | go_back | (simp only [Int.not_lt, Int.not_le] at *; go_simp) | (go_values <;> (try go_simp)) | (go_ite <;> go_prune <;> (try go_simp)))
         exact said_wp hT hgw hg0 hB0 hBz hE hS3.out
     · replace hb1 := Aside0.mk hb1
       go_enter Tryd.func61, Tryd.ntmps61
       go_wp2_with fail
       refine (is_calls 0 n nots (by omega) hS0.out.p hS0.out.b hT (by omega)).mono ?_; rintro e w1 ⟨rfl, hd⟩
       rw [hn.out]
       have hS1 := Aside0.mk (hS0.out.drawn hd)
       clear hd hS0
       go_wp2_with fail
       refine (kind_calls hS1.out.p hS1.out.b).mono ?_; rintro e w2 ⟨rfl, hd⟩
       have hS2 := Aside0.mk (hS1.out.drawn hd)
       clear hd hS1
       go_wp2_with fail
       refine (is_calls 1 (n + 1) less (by omega) hS2.out.p hS2.out.b hT (by omega)).mono ?_; rintro e w3 ⟨rfl, hd⟩
       rw [hb1.out]
       have hS3 := Aside0.mk (hS2.out.drawn hd)
       clear hd hS2
       go_wp2_with fail
       refine (is_calls 1 (n + 1) unlike (by omega) hS3.out.p hS3.out.b hT (by omega)).mono ?_; rintro e w4 ⟨rfl, hd⟩
       have hS4 := Aside0.mk (hS3.out.drawn hd)
       clear hd hS3
       repeat' ((fail_if_success (with_reducible (show Code.wp _ (Code.seq (Code.region 19 _ _) _) _ _ _))); first | go_values | go_skip | go_guarded | go_step | go_upon | go_back | (simp only [Int.not_lt, Int.not_le] at *; go_simp) | (go_values <;> (try go_simp)) | (go_ite <;> go_prune <;> (try go_simp)))
       exact said_wp hT hgw hg0 hB0 hBz hE hS4.out
   · have hE := Aside0.mk (show literalP T s n = match termP T s n with
      | .error p => .error p
      | .ok (a, m) => if isT T s m unlike then pairP T s 4 a m else if isT T s m less then pairP T s 3 a m else .error (posOf T s m, 6) by unfold literalP; rw [hn, hc]; rfl)
     have hcase : (kindT T n == 3) = true ∨ ((kindT T n == 3) = false ∧ (kindT T n == 2) = true ∧ isT T s (n + 1) says = false) ∨ ((kindT T n == 3) = false ∧ (kindT T n == 2) = false ∧ (kindT T n == 1) = true ∧ isT T s (n + 1) less = false ∧ isT T s (n + 1) unlike = true) ∨ ((kindT T n == 3) = false ∧ (kindT T n == 2) = false ∧ (kindT T n == 1) = true ∧ isT T s (n + 1) less = true) := by
      unfold compares at hc
      cases h3 : kindT T n == 3 <;> cases h2 : kindT T n == 2 <;> cases h1 : kindT T n == 1 <;> cases hy : isT T s (n + 1) says <;> cases hb : isT T s (n + 1) less <;> cases hu : isT T s (n + 1) unlike <;> simp_all
     clear hc
     replace hn := Aside0.mk hn
     have hS0 := hS
     clear hS
     rcases hcase with hk3 | ⟨hk3, hk2, hy⟩ | ⟨hk3, hk2, hk1, hb1, hb2⟩ | ⟨hk3, hk2, hk1, hb1⟩
     · cases hb1 : isT T s (n + 1) less
       · replace hb1 := Aside0.mk hb1
         go_enter Tryd.func61, Tryd.ntmps61
         go_wp2_with fail
         refine (is_calls 0 n nots (by omega) hS0.out.p hS0.out.b hT (by omega)).mono ?_; rintro e w1 ⟨rfl, hd⟩
         rw [hn.out]
         have hS1 := Aside0.mk (hS0.out.drawn hd)
         clear hd hS0
         go_wp2_with fail
         refine (kind_calls hS1.out.p hS1.out.b).mono ?_; rintro e w2 ⟨rfl, hd⟩
         have hS2 := Aside0.mk (hS1.out.drawn hd)
         clear hd hS1
         go_wp2_with fail
         refine (is_calls 1 (n + 1) less (by omega) hS2.out.p hS2.out.b hT (by omega)).mono ?_; rintro e w3 ⟨rfl, hd⟩
         rw [hb1.out]
         have hS3 := Aside0.mk (hS2.out.drawn hd)
         clear hd hS2
         go_wp2_with fail
         refine (is_calls 1 (n + 1) unlike (by omega) hS3.out.p hS3.out.b hT (by omega)).mono ?_; rintro e w4 ⟨rfl, hd⟩
         have hS4 := Aside0.mk (hS3.out.drawn hd)
         clear hd hS3
         repeat' ((fail_if_success (with_reducible (show Code.wp _ (Code.seq (Code.region 10 _ _) _) _ _ _))); first | go_values | go_skip | go_guarded | go_step | go_upon | go_back | (simp only [Int.not_lt, Int.not_le] at *; go_simp) | (go_values <;> (try go_simp)) | (go_ite <;> go_prune <;> (try go_simp)))
         exact pair_wp hT hgw hg0 hB0 hBz hmx hE hS4.out
       · replace hb1 := Aside0.mk hb1
         go_enter Tryd.func61, Tryd.ntmps61
         go_wp2_with fail
         refine (is_calls 0 n nots (by omega) hS0.out.p hS0.out.b hT (by omega)).mono ?_; rintro e w1 ⟨rfl, hd⟩
         rw [hn.out]
         have hS1 := Aside0.mk (hS0.out.drawn hd)
         clear hd hS0
         go_wp2_with fail
         refine (kind_calls hS1.out.p hS1.out.b).mono ?_; rintro e w2 ⟨rfl, hd⟩
         have hS2 := Aside0.mk (hS1.out.drawn hd)
         clear hd hS1
         go_wp2_with fail
         refine (is_calls 1 (n + 1) less (by omega) hS2.out.p hS2.out.b hT (by omega)).mono ?_; rintro e w3 ⟨rfl, hd⟩
         rw [hb1.out]
         have hS3 := Aside0.mk (hS2.out.drawn hd)
         clear hd hS2
         repeat' ((fail_if_success (with_reducible (show Code.wp _ (Code.seq (Code.region 10 _ _) _) _ _ _))); first | go_values | go_skip | go_guarded | go_step | go_upon | go_back | (simp only [Int.not_lt, Int.not_le] at *; go_simp) | (go_values <;> (try go_simp)) | (go_ite <;> go_prune <;> (try go_simp)))
         exact pair_wp hT hgw hg0 hB0 hBz hmx hE hS3.out
     · cases hb1 : isT T s (n + 1) less
       · replace hb1 := Aside0.mk hb1
         replace hy := Aside0.mk hy
         go_enter Tryd.func61, Tryd.ntmps61
         go_wp2_with fail
         refine (is_calls 0 n nots (by omega) hS0.out.p hS0.out.b hT (by omega)).mono ?_; rintro e w1 ⟨rfl, hd⟩
         rw [hn.out]
         have hS1 := Aside0.mk (hS0.out.drawn hd)
         clear hd hS0
         go_wp2_with fail
         refine (kind_calls hS1.out.p hS1.out.b).mono ?_; rintro e w2 ⟨rfl, hd⟩
         have hS2 := Aside0.mk (hS1.out.drawn hd)
         clear hd hS1
         go_wp2_with fail
         refine (is_calls 1 (n + 1) less (by omega) hS2.out.p hS2.out.b hT (by omega)).mono ?_; rintro e w3 ⟨rfl, hd⟩
         rw [hb1.out]
         have hS3 := Aside0.mk (hS2.out.drawn hd)
         clear hd hS2
         go_wp2_with fail
         refine (is_calls 1 (n + 1) unlike (by omega) hS3.out.p hS3.out.b hT (by omega)).mono ?_; rintro e w4 ⟨rfl, hd⟩
         have hS4 := Aside0.mk (hS3.out.drawn hd)
         clear hd hS3
         go_wp2_with fail
         refine (is_calls 1 (n + 1) says (by omega) hS4.out.p hS4.out.b hT (by omega)).mono ?_; rintro e w5 ⟨rfl, hd⟩
         rw [hy.out]
         have hS5 := Aside0.mk (hS4.out.drawn hd)
         clear hd hS4
         repeat' ((fail_if_success (with_reducible (show Code.wp _ (Code.seq (Code.region 10 _ _) _) _ _ _))); first | go_values | go_skip | go_guarded | go_step | go_upon | go_back | (simp only [Int.not_lt, Int.not_le] at *; go_simp) | (go_values <;> (try go_simp)) | (go_ite <;> go_prune <;> (try go_simp)))
         exact pair_wp hT hgw hg0 hB0 hBz hmx hE hS5.out
       · replace hb1 := Aside0.mk hb1
         replace hy := Aside0.mk hy
         go_enter Tryd.func61, Tryd.ntmps61
         go_wp2_with fail
         refine (is_calls 0 n nots (by omega) hS0.out.p hS0.out.b hT (by omega)).mono ?_; rintro e w1 ⟨rfl, hd⟩
         rw [hn.out]
         have hS1 := Aside0.mk (hS0.out.drawn hd)
         clear hd hS0
         go_wp2_with fail
         refine (kind_calls hS1.out.p hS1.out.b).mono ?_; rintro e w2 ⟨rfl, hd⟩
         have hS2 := Aside0.mk (hS1.out.drawn hd)
         clear hd hS1
         go_wp2_with fail
         refine (is_calls 1 (n + 1) less (by omega) hS2.out.p hS2.out.b hT (by omega)).mono ?_; rintro e w3 ⟨rfl, hd⟩
         rw [hb1.out]
         have hS3 := Aside0.mk (hS2.out.drawn hd)
         clear hd hS2
         go_wp2_with fail
         refine (is_calls 1 (n + 1) says (by omega) hS3.out.p hS3.out.b hT (by omega)).mono ?_; rintro e w4 ⟨rfl, hd⟩
         rw [hy.out]
         have hS4 := Aside0.mk (hS3.out.drawn hd)
         clear hd hS3
         repeat' ((fail_if_success (with_reducible (show Code.wp _ (Code.seq (Code.region 10 _ _) _) _ _ _))); first | go_values | go_skip | go_guarded | go_step | go_upon | go_back | (simp only [Int.not_lt, Int.not_le] at *; go_simp) | (go_values <;> (try go_simp)) | (go_ite <;> go_prune <;> (try go_simp)))
         exact pair_wp hT hgw hg0 hB0 hBz hmx hE hS4.out
     · replace hb1 := Aside0.mk hb1
       go_enter Tryd.func61, Tryd.ntmps61
       go_wp2_with fail
       refine (is_calls 0 n nots (by omega) hS0.out.p hS0.out.b hT (by omega)).mono ?_; rintro e w1 ⟨rfl, hd⟩
       rw [hn.out]
       have hS1 := Aside0.mk (hS0.out.drawn hd)
       clear hd hS0
       go_wp2_with fail
       refine (kind_calls hS1.out.p hS1.out.b).mono ?_; rintro e w2 ⟨rfl, hd⟩
       have hS2 := Aside0.mk (hS1.out.drawn hd)
       clear hd hS1
       go_wp2_with fail
       refine (is_calls 1 (n + 1) less (by omega) hS2.out.p hS2.out.b hT (by omega)).mono ?_; rintro e w3 ⟨rfl, hd⟩
       rw [hb1.out]
       have hS3 := Aside0.mk (hS2.out.drawn hd)
       clear hd hS2
       go_wp2_with fail
       refine (is_calls 1 (n + 1) unlike (by omega) hS3.out.p hS3.out.b hT (by omega)).mono ?_; rintro e w4 ⟨rfl, hd⟩
       have hS4 := Aside0.mk (hS3.out.drawn hd)
       clear hd hS3
       repeat' ((fail_if_success (with_reducible (show Code.wp _ (Code.seq (Code.region 10 _ _) _) _ _ _))); first | go_values | go_skip | go_guarded | go_step | go_upon | go_back | (simp only [Int.not_lt, Int.not_le] at *; go_simp) | (go_values <;> (try go_simp)) | (go_ite <;> go_prune <;> (try go_simp)))
       exact pair_wp hT hgw hg0 hB0 hBz hmx hE hS4.out
     · replace hb1 := Aside0.mk hb1
       go_enter Tryd.func61, Tryd.ntmps61
       go_wp2_with fail
       refine (is_calls 0 n nots (by omega) hS0.out.p hS0.out.b hT (by omega)).mono ?_; rintro e w1 ⟨rfl, hd⟩
       rw [hn.out]
       have hS1 := Aside0.mk (hS0.out.drawn hd)
       clear hd hS0
       go_wp2_with fail
       refine (kind_calls hS1.out.p hS1.out.b).mono ?_; rintro e w2 ⟨rfl, hd⟩
       have hS2 := Aside0.mk (hS1.out.drawn hd)
       clear hd hS1
       go_wp2_with fail
       refine (is_calls 1 (n + 1) less (by omega) hS2.out.p hS2.out.b hT (by omega)).mono ?_; rintro e w3 ⟨rfl, hd⟩
       rw [hb1.out]
       have hS3 := Aside0.mk (hS2.out.drawn hd)
       clear hd hS2
       repeat' ((fail_if_success (with_reducible (show Code.wp _ (Code.seq (Code.region 10 _ _) _) _ _ _))); first | go_values | go_skip | go_guarded | go_step | go_upon | go_back | (simp only [Int.not_lt, Int.not_le] at *; go_simp) | (go_values <;> (try go_simp)) | (go_ite <;> go_prune <;> (try go_simp)))
       exact pair_wp hT hgw hg0 hB0 hBz hmx hE hS3.out
 · have hl := isT_lt hn
   have hE := Aside0.mk (show literalP T s n = saidL 2 (saidP T s (n + 1)) by unfold literalP; rw [hn]; rfl)
   replace hn := Aside0.mk hn
   go_enter Tryd.func61, Tryd.ntmps61
   go_wp2_with fail
   refine (is_calls 0 n nots (by omega) hS.out.p hS.out.b hT (by omega)).mono ?_; rintro e w1 ⟨rfl, hd⟩
   rw [hn.out]
   have hS1 := Aside0.mk (hS.out.drawn hd)
   obtain ⟨A1, c1, p0, p1, p2, q2, hm, _, _⟩ := hS1.out.p.cells
   have e0 : w1.cell? ⟨w.heap.size + 1, 0, none⟩ = some (.int .u8 1) := (blk_cell hS1.out.l 0).trans rfl
   have f0 := blk_frozen hS1.out.l 0
   clear hS hd
   go_wp2_with fail
   have hS2 := Aside0.mk ((hS1.out.to hgw (n + 1) ((n : Int) + 1) (by omega) (by omega)).kind hgw hBz 2)
   refine (said_calls (b := w.heap.size + 1) (k := 2) (pred0 := noStr) (rest := []) (ty := 28) hT (by omega) hS2.out.p hS2.out.b (Or.inl (by omega)) hS2.out.l).mono ?_
   intro e w9 hp
   obtain ⟨r, hr⟩ : ∃ r, r = saidP T s (n + 1) := ⟨_, rfl⟩
   rw [← hr] at hp
   cases r with
   | error p =>
     obtain ⟨rfl, hF9⟩ := hp
     have hE2 := Aside0.mk (show literalP T s n = .error p by rw [hE.out, ← hr]; rfl)
     have hF := hS2.out.f
     clear hr
     go_wp2
     refine ⟨rfl, ?_⟩
     rw [hE2.out]
     exact ⟨rfl, hF.step hF9 (fun q hq => by rcases hq with rfl | rfl; exact Or.inl rfl; exact Or.inr (by omega))⟩
   | ok r =>
     obtain ⟨⟨who, x, ts⟩, j⟩ := r
     obtain ⟨rfl, hP9, ⟨v9, hL9, hR9⟩, hF9⟩ := hp
     have hE2 := Aside0.mk (show literalP T s n = .ok (⟨2, who, x, ts⟩, j) by rw [hE.out, ← hr]; rfl)
     obtain ⟨A9, c9, rfl⟩ := Kd.R_slice hR9
     have hD9 := hF9.blk hS2.out.d (fun q => by rcases q with q | q <;> omega)
     have hzz := hS2.out.z
     replace hR9 := Kd.R_mono (ok' := fun q => w.heap.size + 2 ≤ q) (Kd.R_lower hR9 (by omega : w.heap.size ≤ _)) (fun q hq => by omega)
     replace hF9 := hS2.out.f.step hF9 (fun q hq => by rcases hq with rfl | rfl; exact Or.inl rfl; exact Or.inr (by omega))
     clear hr hS1 hS2 p0 p1 p2 q2 e0 f0
     have e0 : w9.cell? ⟨w.heap.size + 1, 0, none⟩ = some (.int .u8 (⟨2, who, x, ts⟩ : Lit).kind) := (blk_cell hL9 0).trans rfl
     have e1 : w9.cell? ⟨w.heap.size + 1, 1, none⟩ = some (.string (⟨2, who, x, ts⟩ : Lit).who.var) := (blk_cell hL9 1).trans rfl
     have e2 : w9.cell? ⟨w.heap.size + 1, 2, none⟩ = some (.string (⟨2, who, x, ts⟩ : Lit).who.val.sym) := (blk_cell hL9 2).trans rfl
     have e3 : w9.cell? ⟨w.heap.size + 1, 3, none⟩ = some (.int .i64 (⟨2, who, x, ts⟩ : Lit).who.val.num) := (blk_cell hL9 3).trans rfl
     have e4 : w9.cell? ⟨w.heap.size + 1, 4, none⟩ = some (.string (⟨2, who, x, ts⟩ : Lit).pred) := (blk_cell hL9 4).trans rfl
     have e5 : w9.cell? ⟨w.heap.size + 1, 5, none⟩ = some (.slice A9 (⟨2, who, x, ts⟩ : Lit).args.length c9) := (blk_cell hL9 5).trans rfl
     have d0 : w9.cell? ⟨w.heap.size, 0, none⟩ = some (.int .u8 0) := (blk_cell hD9 0).trans rfl
     have d1 : w9.cell? ⟨w.heap.size, 1, none⟩ = some (.string ⟨#[]⟩) := (blk_cell hD9 1).trans rfl
     have d2 : w9.cell? ⟨w.heap.size, 2, none⟩ = some (.string ⟨#[]⟩) := (blk_cell hD9 2).trans rfl
     have d3 : w9.cell? ⟨w.heap.size, 3, none⟩ = some (.int .i64 0) := (blk_cell hD9 3).trans rfl
     have d4 : w9.cell? ⟨w.heap.size, 4, none⟩ = some (.string ⟨#[]⟩) := (blk_cell hD9 4).trans rfl
     have d5 : w9.cell? ⟨w.heap.size, 5, none⟩ = some (.slice none 0 0) := (blk_cell hD9 5).trans rfl
     have f0 := blk_frozen hD9 0
     have f1 := blk_frozen hD9 1
     have f2 := blk_frozen hD9 2
     have f3 := blk_frozen hD9 3
     have f4 := blk_frozen hD9 4
     have f5 := blk_frozen hD9 5
     have hz9 := blk_lt hD9
     have hL9 := Aside0.mk hL9
     have hD9 := Aside0.mk hD9
     have hR9 := Aside0.mk hR9
     have hP9 := Aside0.mk hP9
     have hF9 := Aside0.mk hF9
     go_wp2
     exact lit_end (l := ⟨2, who, x, ts⟩) (av := .slice A9 ts.length c9) rfl rfl hD9.out hR9.out hP9.out hF9.out hgw hE2.out
end Go.Proofs.YtfhpecgknmfnnaaDoor.M
end
section
namespace Go.Proofs.YtfhpecgknmfnnaaDoor.M
open Go.RowKit Go.Proofs.YtfhpecgknmfnnaaDoorW.PrintWords Go.Proofs.YtfhpecgknmfnnaaDoorW.PrintMore Go.Proofs.YtfhpecgknmfnnaaDoorW.PrintLast
attribute [local go_sem] max2_int min2_int max_two min_two
theorem kLit_mkM {w : World} {base : Nat} {ok : Nat → Prop} {l : Lit} {av : Value} (h : Kd.R kTerm 25 w base ok av l.args) : kLit.M w base ok l [.int .u8 l.kind, .string l.who.var, .string l.who.val.sym, .int .i64 l.who.val.num, .string l.pred, av] :=
 ⟨[.int .u8 l.kind], [.string l.who.var, .string l.who.val.sym, .int .i64 l.who.val.num, .string l.pred, av], rfl, rfl, ⟨[.string l.who.var, .string l.who.val.sym, .int .i64 l.who.val.num], [.string l.pred, av], rfl, kTerm_mkM _ _ _ _, ⟨[.string l.pred], [av], rfl, rfl, ⟨av, rfl, h⟩⟩⟩⟩
theorem info_lit : (Tryd.prog.info? 28).map (fun i => (i.zero, i.size, i.bytes)) = some (some (.agg #[.int .u8 0, .string ⟨#[]⟩, .string ⟨#[]⟩, .int .i64 0, .string ⟨#[]⟩, .slice none 0 0]), 6, 88) := by kernel_rfl
def BodyI (g b bp B : Nat) (k : Int) (who : Term) (pred : ByteArray) (av : Value) (acc : List Lit) (w : World) : Prop :=
 ∃ v, w.heap[b]? = some (.cells (litC k who pred av [v]) 31 (0, 0)) ∧ w.heap[bp]? = some (.cells #[.pointer (some ⟨g, 0, none⟩)] 98 (0, 0)) ∧ Kd.R kLit 28 w B (fun q => B ≤ q) v acc ∧ B ≤ w.heap.size
theorem BodyI.fr {g b bp B : Nat} {k : Int} {who : Term} {pred : ByteArray} {av : Value} {acc : List Lit} {w w' : World} {S : Nat → Prop} (h : BodyI g b bp B k who pred av acc w) (f : Fr S w w') (h1 : ¬ S b) (h3 : ¬ S bp) (h4 : ∀ q, B ≤ q → ¬ S q) : BodyI g b bp B k who pred av acc w' := by
 obtain ⟨v, hL, hp, hR, hB⟩ := h
 exact ⟨v, f.blk hL h1, f.blk hp h3, f.R hR h4, Nat.le_trans hB f.size⟩
theorem litC_rest {k : Int} {who : Term} {pred : ByteArray} {v x : Value} {ty : TypeId} {w : World} {b : Nat} (u : Value) (h : w.heap[b]? = some (.cells (litC k who pred v [x]) ty (0, 0))) :
 (w.setCell ⟨b, 6, none⟩ u).heap[b]? = some (.cells (litC k who pred v [u]) ty (0, 0)) := by
 have h2 := blk_set h 6 u
 rwa [show (litC k who pred v [x]).setIfInBounds 6 u = litC k who pred v [u] by simp [litC]] at h2
def rBody.T : Bool × List (List Nat × List Nat) := (true, [([], []), ([0], [0]), ([], []), ([2], [2]), ([3], [3]), ([1, 4, 3], [1, 4]), ([0, 1, 2, 3, 4, 5], []), ([6, 5, 5, 0, 1, 2, 3, 4, 5], [5, 6])])
def rBody.B : List Nat := [0, 1, 0, 4, 12, 31, 63, 127]
theorem rBody.tab : rtab .any (opsOf Tryd.f60 0) = rBody.T := by kernel_rfl
theorem rBody.bits : waitsOk rBody.T.2 rBody.B = true := by kernel_rfl
set_option maxHeartbeats 8000000 in
set_option maxRecDepth 100000 in
theorem body1_calls {w0 : World} {T : List Tok} {s : ByteArray} {g b bp B : Nat} {k : Int} {who : Term} {pred : ByteArray} {av : Value} (hT : TokOk s T) (hgb : g ≠ b) (hpg : bp ≠ g) (hpb : bp ≠ b) (hgB : g < B) (hbB : b < B) (hpB : bp < B)
 (acc : List Lit) (n : Nat) (w : World) (hacc : acc.length ≤ 4096) (h : PAt w0 T s w g n) (hB : Bel w0 w) (hI : BodyI g b bp B k who pred av acc w) :
 Calls Tryd.prog 60 #[.pointer (some ⟨b, 0, none⟩), .pointer (some ⟨bp, 0, none⟩)] w (OPost w0 T s g (atomS g b B) w (fun a w' => BodyI g b bp B k who pred av (acc ++ [a]) w') (literalP T s n)) := by
 obtain ⟨v, hL, hp, hR, hBw⟩ := hI
 have c6 : w.cell? ⟨b, 6, none⟩ = some v := (blk_cell hL 6).trans rfl
 have cp : w.cell? ⟨bp, 0, none⟩ = some (.pointer (some ⟨g, 0, none⟩)) := (blk_cell hp 0).trans rfl
 have h' := Aside0.mk h
 have hB' := Aside0.mk hB
 have hL := Aside0.mk hL
 have hp := Aside0.mk hp
 have hR := Aside0.mk hR
 clear h hB
 obtain ⟨r, hr⟩ : ∃ r, r = literalP T s n := ⟨_, rfl⟩
 cases r with
 | error p =>
   replace hr := Aside0.mk hr
   go_enter Tryd.func60, Tryd.ntmps60
   go_wp2_with fail
   refine start_ (n := 8) (S := fun w' => w'.cell? ⟨b, 6, none⟩ = some v ∧ w'.cell? ⟨bp, 0, none⟩ = some (.pointer (some ⟨g, 0, none⟩))) (ds := [7]) #[false,false,false,false,false,false,false,false] rfl rfl rfl ⟨c6, cp⟩ (fun hS_ => ?_)
   refine with_tabW rBody.tab rBody.bits (fun HT_ HW_ => ?_)
   refine pure_ (i := 0) (N := some 2) (v := ?_) (a' := ?_) #[true,false,false,false,false,false,false,false] rfl rfl (any_of HT_.out (by kernel_rfl)) (fun _ _ _ h => h) (Or.inl ⟨by rfl, ?_⟩) ?_ ?_
   rotate_left; · (intro w'; go_simp; with_reducible rfl)
   rotate_left; · (simp only [Act.put, List.setIfInBounds_toArray, List.set_cons_zero, List.set_cons_succ]; rfl)
   refine take_ (i := 1) (N := some 3) (v := ?_) (a' := ?_) #[true,true,false,false,false,false,false,false] rfl rfl (take_ofW HT_.out HW_.out (by kernel_rfl)) (fun _ _ _ h => h) (Or.inl ⟨by rfl, ?_⟩) hS_ ?_ ?_
   rotate_left; · (rintro w' ⟨s0, s1⟩; go_simp; with_reducible rfl)
   rotate_left; · (simp only [Act.put, List.setIfInBounds_toArray, List.set_cons_zero, List.set_cons_succ]; rfl)
   refine take_ (i := 2) (N := some 4) (v := ?_) (a' := ?_) #[true,true,true,false,false,false,false,false] rfl rfl (take_ofW HT_.out HW_.out (by kernel_rfl)) (fun _ _ _ h => h) (Or.inl ⟨by rfl, ?_⟩) hS_ ?_ ?_
   rotate_left; · (rintro w' ⟨s0, s1⟩; go_simp; with_reducible rfl)
   rotate_left; · (simp only [Act.put, List.setIfInBounds_toArray, List.set_cons_zero, List.set_cons_succ]; rfl)
   refine one_ (i := 3) (N := some 5) #[true,true,true,true,false,false,false,false] rfl rfl (one_of HT_.out (by kernel_rfl)) (by decide) (fun K hK => ?_)
   refine goesP Tryd.func61 (by kernel_rfl) rfl #[.pointer (some ⟨g, 0, none⟩)] (by rfl) rfl rfl (by simp only [List.map_toArray, List.map_cons, List.map_nil]; rfl) ?_
   refine (literal_calls (w0 := w0) (T := T) (s := s) (n := n) hT h'.out.drew (Bel.drew hB'.out)).mono ?_
   rw [← hr.out]
   rintro e w1 ⟨rfl, hF1⟩
   refine .inr ⟨_, rfl, ?_⟩
   refine ⟨rfl, ?_⟩
   rw [← hr.out]
   exact ⟨rfl, (Fr.refl _ w).drew.trans (hF1.mono (fun q hq => Or.inl hq))⟩
 | ok r =>
   obtain ⟨a, m⟩ := r
   replace hr := Aside0.mk hr
   have bk := Aside0.mk (show ∀ w1 w2 : World, Fr (fun q => q = g) w.drew w1 → w1.grownBy w2 v.ownBlock → ∀ x o, w.heap[x]? = some o → x ≠ g → x < B → w2.heap[x]? = some o from
    fun w1 w2 hF hg x o ho hx hxB => (hg.block x (Nat.lt_of_lt_of_le (blk_lt ho) hF.size) (fun e => absurd (hR.out.1 x e.symm) (Nat.not_le.mpr hxB))).trans (hF.blk ho hx))
   go_enter Tryd.func60, Tryd.ntmps60
   go_wp2_with fail
   refine start_ (n := 8) (S := fun w' => w'.cell? ⟨b, 6, none⟩ = some v ∧ w'.cell? ⟨bp, 0, none⟩ = some (.pointer (some ⟨g, 0, none⟩))) (ds := [7]) #[false,false,false,false,false,false,false,false] rfl rfl rfl ⟨c6, cp⟩ (fun hS_ => ?_)
   refine with_tabW rBody.tab rBody.bits (fun HT_ HW_ => ?_)
   refine pure_ (i := 0) (N := some 2) (v := ?_) (a' := ?_) #[true,false,false,false,false,false,false,false] rfl rfl (any_of HT_.out (by kernel_rfl)) (fun _ _ _ h => h) (Or.inl ⟨by rfl, ?_⟩) ?_ ?_
   rotate_left; · (intro w'; go_simp; with_reducible rfl)
   rotate_left; · (simp only [Act.put, List.setIfInBounds_toArray, List.set_cons_zero, List.set_cons_succ]; rfl)
   refine take_ (i := 1) (N := some 3) (v := ?_) (a' := ?_) #[true,true,false,false,false,false,false,false] rfl rfl (take_ofW HT_.out HW_.out (by kernel_rfl)) (fun _ _ _ h => h) (Or.inl ⟨by rfl, ?_⟩) hS_ ?_ ?_
   rotate_left; · (rintro w' ⟨s0, s1⟩; go_simp; with_reducible rfl)
   rotate_left; · (simp only [Act.put, List.setIfInBounds_toArray, List.set_cons_zero, List.set_cons_succ]; rfl)
   refine take_ (i := 2) (N := some 4) (v := ?_) (a' := ?_) #[true,true,true,false,false,false,false,false] rfl rfl (take_ofW HT_.out HW_.out (by kernel_rfl)) (fun _ _ _ h => h) (Or.inl ⟨by rfl, ?_⟩) hS_ ?_ ?_
   rotate_left; · (rintro w' ⟨s0, s1⟩; go_simp; with_reducible rfl)
   rotate_left; · (simp only [Act.put, List.setIfInBounds_toArray, List.set_cons_zero, List.set_cons_succ]; rfl)
   refine one_ (i := 3) (N := some 5) #[true,true,true,true,false,false,false,false] rfl rfl (one_of HT_.out (by kernel_rfl)) (by decide) (fun K hK => ?_)
   refine goesP Tryd.func61 (by kernel_rfl) rfl #[.pointer (some ⟨g, 0, none⟩)] (by rfl) rfl rfl (by simp only [List.map_toArray, List.map_cons, List.map_nil]; rfl) ?_
   refine (literal_calls (w0 := w0) (T := T) (s := s) (n := n) hT h'.out.drew (Bel.drew hB'.out)).mono ?_
   rw [← hr.out]
   rintro e w1 ⟨⟨v1, rfl, av1, rfl, hR1⟩, hP1, hF1⟩
   refine .inl ⟨_, rfl, ?_⟩
   refine hK.out _ _ ⟨hF1.cell (p := ⟨b, 6, none⟩) c6 (Ne.symm hgb), hF1.cell (p := ⟨bp, 0, none⟩) cp hpg⟩ (fun hS_ => ?_)
   clear hK K
   refine norm_ (a' := ?_) ?_ ?_
   rotate_left; · (show Act.put _ (some 5) _ = _; simp only [Act.put, List.setIfInBounds_toArray, List.set_cons_zero, List.set_cons_succ]; rfl)
   refine one_ (i := 4) (N := some 6) #[true,true,true,true,true,false,false,false] rfl rfl (one_of HT_.out (by kernel_rfl)) (by decide) (fun K hK => ?_)
   refine value_ (w1 := ?_) (v := ?_) (by rfl) rfl ?_ ?_
   rotate_left 2; · (go_simp; constructor; rfl; rfl)
   refine hK.out _ _ ⟨cell_alloc hS_.1 _, cell_alloc hS_.2 _⟩ (fun hS_ => ?_)
   clear hK K
   refine norm_ (a' := ?_) ?_ ?_
   rotate_left; · (show Act.put _ (some 6) _ = _; simp only [Act.put, List.setIfInBounds_toArray, List.set_cons_zero, List.set_cons_succ]; rfl)
   refine one_ (i := 5) (N := some 7) #[true,true,true,true,true,true,false,false] rfl rfl (one_of HT_.out (by kernel_rfl)) (by decide) (fun K hK => ?_)
   refine Kd.R_append_step kLit (w0 := w1) B (by rfl) (.tmp 3) (.tmp 6) 29 28 (.agg #[.int .u8 0, .string ⟨#[]⟩, .string ⟨#[]⟩, .int .i64 0, .string ⟨#[]⟩, .slice none 0 0]) 88 (by rfl) Tryd.underlying29 info_lit (by rfl) (by decide) (by omega) v acc a [.int .u8 a.kind, .string a.who.var, .string a.who.val.sym, .int .i64 a.who.val.num, .string a.pred, av1] (fun q => B ≤ q) (fun q => w.heap.size ≤ q) (by rfl) (by rfl) (kLit_mkM (Kd.R_lower hR1 hBw)) (fun k hk => ⟨Nat.le_trans hBw hk, fun e => by have := (Kd.R_bound hR.out).1 k e.symm; omega⟩) (fun _ hk => Nat.le_trans (Nat.le_trans hBw hF1.size) hk) (hF1.R (Kd.R_drew hR.out) (fun q hq e => by subst e; exact absurd hgB (Nat.not_lt.mpr hq))) (Below.refl _ _) (Nat.le_trans hBw hF1.size) (by omega) ?_
   intro v2 w2 hR2 hB2 hg2 hat2
   obtain ⟨gg, cap, rfl, hgg⟩ := Kd.R_form hR2 (by simp)
   have hb2 := Aside0.mk (bk.out w1 w2 hF1 hg2 b _ hL.out (Ne.symm hgb) hbB)
   have hp2 := Aside0.mk (bk.out w1 w2 hF1 hg2 bp _ hp.out hpg hpB)
   refine hK.out _ _ ⟨(blk_cell hb2.out 6).trans rfl, (blk_cell hp2.out 0).trans rfl⟩ (fun hS_ => ?_)
   clear hK K
   refine norm_ (a' := ?_) ?_ ?_
   rotate_left; · (show Act.put _ (some 7) _ = _; simp only [Act.put, List.setIfInBounds_toArray, List.set_cons_zero, List.set_cons_succ]; rfl)
   refine pure_ (i := 6) (N := some 8) (v := ?_) (a' := ?_) #[true,true,true,true,true,true,true,false] rfl rfl (any_of HT_.out (by kernel_rfl)) (fun _ _ _ h => h) (Or.inl ⟨by rfl, ?_⟩) ?_ ?_
   rotate_left; · (intro w'; go_simp; with_reducible rfl)
   rotate_left; · (simp only [Act.put, List.setIfInBounds_toArray, List.set_cons_zero, List.set_cons_succ]; rfl)
   refine last_ (i := 7) (N := none) #[true,true,true,true,true,true,true,true] rfl rfl (one_of HT_.out (by kernel_rfl)) (by decide) (fun K hK => ?_)
   have e6 : w2.cell? ⟨b, 6, none⟩ = some v := (blk_cell hb2.out 6).trans rfl
   have f6 : w2.frozen? ⟨b, 6, none⟩ = false := blk_frozen hb2.out 6
   refine skip_ (w1 := ?_) (by rfl) rfl ?_ ?_
   rotate_left; · (go_simp; rfl)
   refine hK.out _ _ ?_
   clear hK K
   refine wpAnyLast_done (by kernel_rfl) ?_ _
   go_wp2
   go_end0
   rw [← hr.out]
   simp only [List.length_append, List.length_cons, List.length_nil, Nat.zero_add] at hR2
   have hg1 : w2.heap[g]? = w1.heap[g]? := hg2.block g hP1.lt (fun e => absurd (hR.out.1 g e.symm) (Nat.not_le.mpr hgB))
   refine ⟨rfl, ?_, ⟨_, litC_rest _ hb2.out, blk_far hp2.out hpb, Kd.R_far (p := ⟨b, 6, none⟩) hR2 (fun q hq e => by have : q = b := e; omega) _, ?_⟩, ?_⟩
   · exact PAt.far (by obtain ⟨A, c, hx, r⟩ := hP1; exact ⟨A, c, hg1.trans hx, r⟩) hgb
   · have := hF1.size; have := hg2.size; simp at *; omega
   · have hA : Fr (atomS g b B) w w1 := (Fr.refl _ w).drew.trans (hF1.mono (fun q hq => Or.inl hq))
     have hA2 : Fr (atomS g b B) w w2 := hA.trans (Fr.of_grown hg2 (fun q e => Or.inl (Or.inr (Or.inr (hR.out.1 q e)))))
     exact hA2.set _ (Or.inl (Or.inr (Or.inl rfl))) _
end Go.Proofs.YtfhpecgknmfnnaaDoor.M
end
section
namespace Go.Proofs.YtfhpecgknmfnnaaDoor.M
open Go.RowKit Go.Proofs.YtfhpecgknmfnnaaDoorW.PrintWords Go.Proofs.YtfhpecgknmfnnaaDoorW.PrintMore Go.Proofs.YtfhpecgknmfnnaaDoorW.PrintLast
attribute [local go_sem] max2_int min2_int max_two min_two
abbrev turns : ByteArray := ⟨#[58, 45]⟩
abbrev dot : ByteArray := ⟨#[46]⟩
def bodyP (T : List Tok) (s : ByteArray) (m : Nat) : PR (List Lit) := if isT T s m turns then listP T s (literalP T s) 6 (m + 1) else .ok ([], m)
def clauseP (T : List Tok) (s : ByteArray) (n : Nat) : PR Clause := match atomP T s n with
 | .error p => .error p
 | .ok ((x, ts), m) => match bodyP T s m with
   | .error p => .error p
   | .ok (ls, j) => match needP T s dot j with
     | .error p => .error p
     | .ok (_, i) => .ok (⟨⟨1, Term.z, x, ts⟩, ls⟩, i)
def ClauseO (b : Nat) (w : World) (c : Clause) (w' : World) : Prop :=
 ∃ av bv, w'.heap[b]? = some (.cells (litC c.head.kind c.head.who c.head.pred av [bv]) 31 (0, 0)) ∧ Kd.R kTerm 25 w' w.heap.size (fun q => w.heap.size ≤ q) av c.head.args ∧ Kd.R kLit 28 w' w.heap.size (fun q => w.heap.size ≤ q) bv c.body
set_option maxHeartbeats 8000000 in
set_option maxRecDepth 100000 in
theorem clause1_calls {w0 : World} {T : List Tok} {s : ByteArray} {g b n : Nat} {w : World} (hT : TokOk s T) (hgb : g ≠ b) (h : PAt w0 T s w g n) (hB : Bel w0 w) (hb0 : Free w0 b)
 (hL : w.heap[b]? = some (.cells (litC 1 Term.z noStr (.slice none 0 0) [.slice none 0 0]) 31 (0, 0))) :
 Calls Tryd.prog 56 #[.pointer (some ⟨g, 0, none⟩), .pointer (some ⟨b, 0, none⟩)] w (OPost w0 T s g (atomF g b) w (ClauseO b w) (clauseP T s n)) := by
 have hgw := h.lt
 have hbw := blk_lt hL
 have hg0 := h.ge
 have hmx := h.max
 have hbz := hB.size
 have hP1 := Aside0.mk (h.alloc (.cells #[.pointer (some ⟨g, 0, none⟩)] 98))
 have hB1 := Aside0.mk (hB.alloc (.cells #[.pointer (some ⟨g, 0, none⟩)] 98))
 have hL1 := Aside0.mk (blk_alloc hL (.cells #[.pointer (some ⟨g, 0, none⟩)] 98))
 have hBw := Aside0.mk hB
 have hmf := @hmf
 clear h hB hL
 go_enter Tryd.func56, Tryd.ntmps56
 go_wp2_with fail
 refine (atom_calls hT hgb hP1.out hB1.out hb0 hL1.out).mono ?_
 intro e w2 hp
 obtain ⟨r, hr⟩ : ∃ r, r = atomP T s n := ⟨_, rfl⟩
 rw [← hr] at hp
 cases r with
 | error p =>
   obtain ⟨rfl, hF2⟩ := hp
   have hE := Aside0.mk (show clauseP T s n = .error p by unfold clauseP; rw [← hr])
   clear hr
   go_wp2
   refine ⟨rfl, ?_⟩
   rw [hE.out]
   exact ⟨rfl, ((Fr.refl (atomF g b) w).alloc _).trans hF2⟩
 | ok r =>
   obtain ⟨⟨x, ts⟩, m⟩ := r
   obtain ⟨rfl, hP2, ⟨av, hL2, hR2⟩, hF2⟩ := hp
   have hE := Aside0.mk (show clauseP T s n = match bodyP T s m with
    | .error p => .error p
    | .ok (ls, j) => match needP T s dot j with
      | .error p => .error p
      | .ok (_, i) => .ok (⟨⟨1, Term.z, x, ts⟩, ls⟩, i) by unfold clauseP; rw [← hr])
   have hp2 := Aside0.mk (hF2.blk (heap_alloc_new w (.cells #[.pointer (some ⟨g, 0, none⟩)] 98)) (fun q => by rcases q with q | q <;> omega))
   have cp2 : w2.cell? ⟨w.heap.size, 0, none⟩ = some (.pointer (some ⟨g, 0, none⟩)) := (blk_cell hp2.out 0).trans rfl
   have hz2 := hF2.size
   have hR2 := Aside0.mk (Kd.R_mono (Kd.R_lower (Kd.R_bound hR2) (by simp : w.heap.size ≤ _)) (ok' := fun q => w.heap.size ≤ q ∧ q < w2.heap.size) (fun q hq => ⟨by have := hq.1; simp at this; omega, hq.2.2.1⟩))
   have hF2 := Aside0.mk (((Fr.refl (atomF g b) w).alloc (.cells #[.pointer (some ⟨g, 0, none⟩)] 98)).trans hF2)
   have hP2 := Aside0.mk hP2
   have hL2 := Aside0.mk hL2
   have hB2 := Aside0.mk (hBw.out.fr hF2.out (fun q hq => by rcases hq with rfl | rfl; exact Or.inl hg0; exact hb0))
   have hm1 := hP2.out.max1 hT
   have hmx2 := hP2.out.max
   simp at hz2
   clear hr hP1 hB1 hL1
   cases hc : isT T s m turns
   · have hE2 := Aside0.mk (show clauseP T s n = match needP T s dot m with
      | .error p => .error p
      | .ok (_, i) => .ok (⟨⟨1, Term.z, x, ts⟩, []⟩, i) by rw [hE.out]; unfold bodyP; rw [hc]; rfl)
     replace hc := Aside0.mk hc
     go_wp2_with fail
     refine (is_calls 0 m turns (by omega) hP2.out hB2.out hT (by omega)).mono ?_; rintro e w3 ⟨rfl, hd⟩
     rw [hc.out]
     have cp3 : w3.cell? ⟨w.heap.size, 0, none⟩ = some (.pointer (some ⟨g, 0, none⟩)) := (blk_cell (blk_drawn hp2.out hd) 0).trans rfl
     have hP3 := Aside0.mk (hP2.out.drawn hd)
     have hF3 := Aside0.mk (hF2.out.drawn hd)
     have hL3 := Aside0.mk (blk_drawn hL2.out hd)
     have hB3 := Aside0.mk (bel_drawn hB2.out hd)
     have hR3 := Aside0.mk (((Fr.refl (fun _ => False) w2).drawn hd).R hR2.out (fun _ _ => id))
     clear hd hP2 hF2 hL2 hB2 hR2 cp2 hp2
     go_wp2_with fail
     refine (need_calls dot hP3.out hB3.out hT).mono ?_
     intro e w8 hp
     obtain ⟨r, hr⟩ : ∃ r, r = needP T s dot m := ⟨_, rfl⟩
     rw [← hr] at hp
     cases r with
     | error p =>
       obtain ⟨rfl, hF8⟩ := hp
       have hE3 := Aside0.mk (show clauseP T s n = .error p by rw [hE2.out, ← hr])
       clear hr
       go_wp2
       refine ⟨rfl, ?_⟩
       rw [hE3.out]
       exact ⟨rfl, hF3.out.trans (hF8.mono (fun q hq => Or.inl hq))⟩
     | ok r =>
       obtain ⟨_, i⟩ := r
       obtain ⟨⟨v, rfl, rfl⟩, hP8, hF8⟩ := hp
       have hE3 := Aside0.mk (show clauseP T s n = .ok (⟨⟨1, Term.z, x, ts⟩, []⟩, i) by rw [hE2.out, ← hr])
       clear hr
       go_wp2
       go_end0
       rw [hE3.out]
       exact ⟨rfl, hP8, ⟨av, _, hF8.blk hL3.out (Ne.symm hgb), Kd.R_mono (hF8.R hR3.out (fun q hq e => by have : q = g := e; have := hq.1; omega)) (fun q hq => hq.1), Kd.R_nil _ _ _ _ _⟩, hF3.out.trans (hF8.mono (fun q hq => Or.inl hq))⟩
   · have hl := isT_lt hc
     have hE2 := Aside0.mk (show clauseP T s n = match listP T s (literalP T s) 6 (m + 1) with
      | .error p => .error p
      | .ok (ls, j) => match needP T s dot j with
        | .error p => .error p
        | .ok (_, i) => .ok (⟨⟨1, Term.z, x, ts⟩, ls⟩, i) by rw [hE.out]; unfold bodyP; rw [hc]; rfl)
     replace hc := Aside0.mk hc
     go_wp2_with fail
     refine (is_calls 0 m turns (by omega) hP2.out hB2.out hT (by omega)).mono ?_; rintro e w5 ⟨rfl, hd⟩
     rw [hc.out]
     have hp5 := Aside0.mk (blk_drawn hp2.out hd)
     have cp5 : w5.cell? ⟨w.heap.size, 0, none⟩ = some (.pointer (some ⟨g, 0, none⟩)) := (blk_cell hp5.out 0).trans rfl
     have hP5 := Aside0.mk (hP2.out.drawn hd)
     have hF5 := Aside0.mk (hF2.out.drawn hd)
     have hL5 := Aside0.mk (blk_drawn hL2.out hd)
     have hB5 := Aside0.mk (bel_drawn hB2.out hd)
     have hR5 := Aside0.mk (((Fr.refl (fun _ => False) w2).drawn hd).R hR2.out (fun _ _ => id))
     have hz5 := drawn_size hd
     clear hd hP2 hF2 hL2 hB2 hR2 cp2 hp2
     obtain ⟨A5, c5, p0, p1, p2, q2, hm5, _, _⟩ := hP5.out.cells
     go_wp2_with fail
     have hP6 := Aside0.mk (hP5.out.to (m + 1) ((m : Int) + 1) (by omega) (by omega))
     have hF6 := Aside0.mk (hF5.out.set ⟨g, 2, none⟩ (Or.inl (Or.inl rfl)) (.int .i64 ((m : Int) + 1)))
     have hB6 := Aside0.mk (hB5.out.setCell (p := ⟨g, 2, none⟩) hg0 (.int .i64 ((m : Int) + 1)))
     have hI6 : Aside0 (BodyI g b w.heap.size w5.heap.size 1 Term.z x av [] (w5.setCell ⟨g, 2, none⟩ (.int .i64 ((m : Int) + 1)))) :=
      ⟨_, blk_far hL5.out (Ne.symm hgb), blk_far hp5.out (by simp; omega), Kd.R_nil _ _ _ _ _, by simp⟩
     have hR6 := Aside0.mk (Kd.R_far (p := ⟨g, 2, none⟩) hR5.out (fun q hq e => by have : q = g := e; have := hq.1; omega) (.int .i64 ((m : Int) + 1)))
     have hE65 := Aside0.mk (fun (args : Array Value) (w : World) => enters_ (f := 60) (P := Tryd.prog) Tryd.func60 (by kernel_rfl) rfl args w)
     have hset : Aside0 (∀ (w1 : World) (u : Int), Fr (fun q => q = g) w1 (w1.setCell ⟨g, 2, none⟩ (.int .i64 u))) := ⟨fun w1 u => (Fr.refl (fun q => q = g) w1).set ⟨g, 2, none⟩ (Or.inl rfl) (.int .i64 u)⟩
     refine (list_calls (w0 := w0) (T := T) (s := s) (g := g) (n := m + 1) (S := atomS g b w5.heap.size) (fun acc w' => BodyI g b w.heap.size w5.heap.size 1 Term.z x av acc w') (literalP T s) 60 #[.pointer (some ⟨b, 0, none⟩), .pointer (some ⟨w.heap.size, 0, none⟩)] 6 (by omega) [] hE65.out (Or.inl rfl)
      (fun q hq => by rcases hq with rfl | rfl | hq; exact Or.inl hg0; exact hb0; exact Or.inl (Nat.le_trans hB5.out.size hq))
      (fun acc n w' hacc hP hB hI => body1_calls hT hgb (by omega) (by omega) (by omega) (by omega) (by omega) acc n w' (by simp at hacc; omega) hP hB hI)
      (fun acc w1 w2 hI hd => hI.fr (S := fun _ => False) ((Fr.refl _ w1).drawn hd) id id (fun _ _ => id))
      (fun acc w1 u hI => hI.fr (hset.out w1 u) (Ne.symm hgb) (by omega) (fun q hq => by omega))
      hP6.out hB6.out hT hI6.out).mono ?_
     intro e w7 hp
     obtain ⟨r, hr⟩ : ∃ r, r = listP T s (literalP T s) 6 (m + 1) := ⟨_, rfl⟩
     rw [← hr] at hp
     cases r with
     | error p =>
       obtain ⟨rfl, hF7⟩ := hp
       have hE3 := Aside0.mk (show clauseP T s n = .error p by rw [hE2.out, ← hr])
       clear hr
       go_wp2
       refine ⟨rfl, ?_⟩
       rw [hE3.out]
       exact ⟨rfl, hF6.out.step hF7 (fun q hq => by rcases hq with rfl | rfl | hq; exact Or.inl (Or.inl rfl); exact Or.inl (Or.inr rfl); exact Or.inr (by omega))⟩
     | ok r =>
       obtain ⟨ls, j⟩ := r
       obtain ⟨rfl, hP7, hI7, hF7⟩ := hp
       rw [List.nil_append] at hI7
       have hE3 := Aside0.mk (show clauseP T s n = match needP T s dot j with
        | .error p => .error p
        | .ok (_, i) => .ok (⟨⟨1, Term.z, x, ts⟩, ls⟩, i) by rw [hE2.out, ← hr])
       have hR7 := Aside0.mk (hF7.R hR6.out (fun q hq e => by have := hq.1; have := hq.2; rcases e with e | e | e <;> omega))
       have hF7 := Aside0.mk (hF6.out.step hF7 (fun q hq => by rcases hq with rfl | rfl | hq; exact Or.inl (Or.inl rfl); exact Or.inl (Or.inr rfl); exact Or.inr (by omega)))
       have hB7 := Aside0.mk (hBw.out.fr hF7.out (fun q hq => by rcases hq with rfl | rfl; exact Or.inl hg0; exact hb0))
       have hP7 := Aside0.mk hP7
       obtain ⟨v7, hL7, hp7, hV7, _⟩ := hI7
       have cp7 : w7.cell? ⟨w.heap.size, 0, none⟩ = some (.pointer (some ⟨g, 0, none⟩)) := (blk_cell hp7 0).trans rfl
       have hL7 := Aside0.mk hL7
       have hV7 := Aside0.mk hV7
       clear hr hP5 hF5 hL5 hp5 cp5 p0 p1 p2 q2 hP6 hF6 hB6 hI6 hp7 hR5 hR6
       go_wp2_with fail
       refine (need_calls dot hP7.out hB7.out hT).mono ?_
       intro e w8 hp
       obtain ⟨r, hr⟩ : ∃ r, r = needP T s dot j := ⟨_, rfl⟩
       rw [← hr] at hp
       cases r with
       | error p =>
         obtain ⟨rfl, hF8⟩ := hp
         have hE4 := Aside0.mk (show clauseP T s n = .error p by rw [hE3.out, ← hr])
         clear hr
         go_wp2
         refine ⟨rfl, ?_⟩
         rw [hE4.out]
         exact ⟨rfl, hF7.out.trans (hF8.mono (fun q hq => Or.inl hq))⟩
       | ok r =>
         obtain ⟨_, i⟩ := r
         obtain ⟨⟨v, rfl, rfl⟩, hP8, hF8⟩ := hp
         have hE4 := Aside0.mk (show clauseP T s n = .ok (⟨⟨1, Term.z, x, ts⟩, ls⟩, i) by rw [hE3.out, ← hr])
         clear hr
         go_wp2
         go_end0
         rw [hE4.out]
         exact ⟨rfl, hP8, ⟨av, v7, hF8.blk hL7.out (Ne.symm hgb), Kd.R_mono (hF8.R hR7.out (fun q hq e => by have : q = g := e; have := hq.1; omega)) (fun q hq => hq.1), Kd.R_mono (Kd.R_lower (hF8.R hV7.out (fun q hq e => by have : q = g := e; omega)) (by omega)) (fun q hq => by omega)⟩, hF7.out.trans (hF8.mono (fun q hq => Or.inl hq))⟩
set_option maxHeartbeats 4000000 in
set_option maxRecDepth 100000 in
theorem lit1_calls {w0 : World} {T : List Tok} {s : ByteArray} {g b n : Nat} {w : World} (hT : TokOk s T) (hgb : g ≠ b) (h : PAt w0 T s w g n) (hB : Bel w0 w) (hb0 : Free w0 b)
 (hL : w.heap[b]? = some (.cells (litC 1 Term.z noStr (.slice none 0 0) []) 28 (0, 0))) :
 Calls Tryd.prog 76 #[.pointer (some ⟨g, 0, none⟩), .pointer (some ⟨b, 0, none⟩)] w (OPost w0 T s g (atomF g b) w (SaidO b 1 [] 28 w) (saidP T s n)) := by
 go_enter Tryd.func76, Tryd.ntmps76
 go_wp2_with fail
 refine (said_calls hT hgb h hB hb0 hL).mono ?_
 intro e w2 hp
 obtain ⟨r, hr⟩ : ∃ r, r = saidP T s n := ⟨_, rfl⟩
 rw [← hr] at hp
 cases r with
 | error p =>
   obtain ⟨rfl, hF2⟩ := hp
   go_wp2
   refine ⟨rfl, ?_⟩
   rw [← hr]
   exact ⟨rfl, hF2⟩
 | ok r =>
   obtain ⟨r, m⟩ := r
   obtain ⟨rfl, hP2, hO2, hF2⟩ := hp
   go_wp2
   go_end0
   rw [← hr]
   exact ⟨rfl, hP2, hO2, hF2⟩
end Go.Proofs.YtfhpecgknmfnnaaDoor.M
end
section
namespace Go.Proofs.YtfhpecgknmfnnaaDoor.M
open Go.RowKit Go.Proofs.YtfhpecgknmfnnaaDoorW.PrintWords Go.Proofs.YtfhpecgknmfnnaaDoorW.PrintMore Go.Proofs.YtfhpecgknmfnnaaDoorW.PrintLast
attribute [local go_sem] max2_int min2_int max_two min_two
theorem run_neq_iface_nil {ti : TypeId} {ms : Array (String × TypeId)} (tp : TypeId) (v : Value) (w : World) (hi : Tryd.prog.underlying ti = some (.interface ms)) :
 (binOp .neq ti (.iface tp v) .nilIface).run Tryd.prog w = .ok (.bool true) w := by
 have h : ∀ d : Nat, (Op.equalIn (d + 1) ti (.iface tp v) .nilIface).run Tryd.prog w = .ok false w := fun d => by simp [Op.equalIn, run_underlying hi]
 simp only [binOp]
 simp [Op.equal, Op.maxDepth, h 9999]
set_option maxHeartbeats 4000000 in
set_option maxRecDepth 100000 in
theorem catch_idle (a e : Addr) (w : World) :
 CallsD Tryd.prog 79 #[.pointer (some a), .pointer (some e)] .returning w fun x u' w' => x = .returned (.tuple #[]) ∧ u' = .returning ∧ w' = w := by
 refine callsD_of_wpS Tryd.func79 rfl fun c₀ cs hu => ?_
 apply wpS_seq
 apply wpS_region
 simp [wpOpsS, go_sem, recoverD, hu, Tryd.ntmps79, Exit.thenS]
 apply wpS_seq
 apply wpS_region
 simp [wpOpsS, go_sem, Exit.thenS]
 refine wpS_cond (t := false) (by simp [Act.eval, Array.replicate]) ?_
 simp only [Bool.false_eq_true, if_false]
 refine wpS_of_wp (wp_skip ?_)
 cases c₀
 simp_all [bodyPostS, results, Tryd.results79]
set_option maxHeartbeats 4000000 in
set_option maxRecDepth 100000 in
theorem catch_stop (a e : Nat) (hae : a ≠ e) (w : World) (p x p0 x0 : Int) (older : List PanicEntry) (ha : w.heap[a]? = some (.cells #[.int .i64 p0] 3 (0, 0))) (he : w.heap[e]? = some (.cells #[.int .i64 x0] 35 (0, 0))) :
 CallsD Tryd.prog 79 #[.pointer (some ⟨a, 0, none⟩), .pointer (some ⟨e, 0, none⟩)] (.panicking ({ v := .iface 131 (.agg #[.int .i64 p, .int .i64 x]), recovered := false } :: older)) w fun r u' w' =>
  r = .returned (.tuple #[]) ∧ u' = .panicking ({ v := .iface 131 (.agg #[.int .i64 p, .int .i64 x]), recovered := true } :: older) ∧ Fr (fun q => q = a ∨ q = e) w w' ∧ w'.heap[a]? = some (.cells #[.int .i64 p] 3 (0, 0)) ∧ w'.heap[e]? = some (.cells #[.int .i64 x] 35 (0, 0)) := by
 have hta : ∀ (v : Value) (w : World), (Instr.typeAssert (.iface 131 v) 20 131 true).run Tryd.prog w = .ok (.tuple #[v, .bool true]) w := fun v w => by kernel_rfl
 have hq := run_neq_iface_nil 131 (.agg #[.int .i64 p, .int .i64 x]) w (ti := 20) (by rfl)
 refine callsD_of_wpS Tryd.func79 rfl fun c₀ cs hu => ?_
 rw [show (#[.pointer (some ⟨a, 0, none⟩), .pointer (some ⟨e, 0, none⟩)] ++ Array.replicate (Tryd.f79.ntmps - (#[.pointer (some ⟨a, 0, none⟩), .pointer (some ⟨e, 0, none⟩)] : Array Value).size) undef : Array Value) = #[.pointer (some ⟨a, 0, none⟩), .pointer (some ⟨e, 0, none⟩), undef, undef, undef, undef, undef, undef, undef, undef, undef, undef, undef, undef, undef, undef, undef, undef, undef, undef] from rfl]
 apply wpS_seq
 apply wpS_region
 simp [wpOpsS, go_sem, recoverD, hu, Tryd.ntmps79, Exit.thenS]
 apply wpS_seq
 apply wpS_region
 simp [wpOpsS, go_sem, Exit.thenS, hq]
 refine wpS_cond (t := true) (by simp [Act.eval, Array.replicate]) ?_
 simp only [if_true]
 refine wpS_of_wp ?_
 generalize hQ : (fun (e : Exit) (a' : Act) (w' : World) => _) = Q
 go_wp2
 refine wp_world (fun w' => Fr (fun _ => False) w w' ∧ w'.cell? ⟨w.heap.size, 0, none⟩ = some (.int .i64 p) ∧ w'.cell? ⟨w.heap.size, 1, none⟩ = some (.int .i64 x)) ⟨by repeat (first | exact Fr.refl _ _ | refine Fr.alloc ?_ _ | refine Fr.set ?_ _ (by right; simp) _), by simp [go_sem], by simp [go_sem]⟩ ?_
 rintro w1 ⟨hF, h0, h1⟩
 have ha1 := hF.blk ha id
 have he1 := hF.blk he id
 have a0 : w1.cell? ⟨a, 0, none⟩ = some (.int .i64 p0) := (blk_cell ha1 0).trans rfl
 have e0 : w1.cell? ⟨e, 0, none⟩ = some (.int .i64 x0) := (blk_cell he1 0).trans rfl
 have fa := blk_frozen ha1 0
 have fe := blk_frozen he1 0
 have hea : e ≠ a := Ne.symm hae
 have hlt : a < w.heap.size := blk_lt ha
 have hlt2 : e < w.heap.size := blk_lt he
 have n1 : w.heap.size ≠ a := by omega
 have n2 : w.heap.size ≠ e := by omega
 go_region
 subst hQ
 refine ⟨rfl, _, rfl, .tuple #[], by simp [results, Tryd.results79], rfl, rfl, ?_⟩
 exact ⟨(((hF.mono (fun _ q => q.elim)).set ⟨a, 0, none⟩ (Or.inl (Or.inl rfl)) _).set ⟨e, 0, none⟩ (Or.inl (Or.inr rfl)) _).drew, blk_drew (blk_far (p := ⟨e, 0, none⟩) ((blk_set ha1 0 _).trans rfl) hae), blk_drew ((blk_set (blk_far (p := ⟨a, 0, none⟩) he1 hea) 0 _).trans rfl)⟩
end Go.Proofs.YtfhpecgknmfnnaaDoor.M
end
section
namespace Go.Proofs.YtfhpecgknmfnnaaDoor.M
open Go.RowKit Go.Proofs.YtfhpecgknmfnnaaDoorW.PrintWords Go.Proofs.YtfhpecgknmfnnaaDoorW.PrintMore Go.Proofs.YtfhpecgknmfnnaaDoorW.PrintLast
attribute [local go_sem] max2_int min2_int max_two min_two
theorem allGo_ok (s : ByteArray) : ∀ (f p : Nat) (acc : List Tok), p ≤ s.size → acc.length ≤ p → (∀ t ∈ acc, 0 ≤ t.lo ∧ t.lo ≤ t.hi ∧ t.hi ≤ s.size) →
 (allGo s f p acc).1.length ≤ s.size ∧ ∀ t ∈ (allGo s f p acc).1, 0 ≤ t.lo ∧ t.lo ≤ t.hi ∧ t.hi ≤ s.size
 | 0, p, acc, h1, h2, h3 => by simp [allGo]
 | f + 1, p, acc, h1, h2, h3 => by
   unfold allGo
   split
   · exact ⟨Nat.le_trans h2 h1, h3⟩
   split
   · exact allGo_ok s f (p + 1) acc (by omega) (by omega) h3
   split
   · rename_i h4
     obtain ⟨o1, o2, o3⟩ := oneT_ok s p h4
     refine allGo_ok s f _ _ (by omega) (by simp; omega) ?_
     intro t ht
     rcases List.mem_append.1 ht with ht | ht
     · exact h3 t ht
     · rw [List.mem_singleton.1 ht]; exact ⟨by omega, by omega, o3⟩
   · simp
theorem allT_ok (s : ByteArray) : TokOk s (allT s).1 := by
 unfold allT
 split
 · exact ⟨by simp, by simp⟩
 · obtain ⟨h1, h2⟩ := allGo_ok s (s.size + 1) 0 [] (by omega) (by simp) (by simp)
   exact ⟨by omega, h2⟩
def runP {α : Type} (s : ByteArray) (one : List Tok → Nat → PR α) : Except (Int × Int) α :=
 if (allT s).2.2 != 0 then .error ((allT s).2.1, (allT s).2.2) else match one (allT s).1 0 with
  | .error p => .error p
  | .ok (a, n) => if n < (allT s).1.length then .error (posOf (allT s).1 s n, 6) else .ok a
def RunPost {α : Type} (b : Nat) (I : World → α → World → Prop) (w : World) (r : Except (Int × Int) α) (e : Ending) (w' : World) : Prop := match r with
 | .error (p, x) => e = .returned (.tuple #[.int .i64 p, .int .i64 x]) ∧ Fr (fun q => q = b) w w'
 | .ok a => e = .returned (.tuple #[.int .i64 0, .int .i64 0]) ∧ (∃ w1, w.heap.size ≤ w1.heap.size ∧ I w1 a w') ∧ Fr (fun q => q = b) w w'
theorem tokC_of_R {w : World} {base : Nat} {v : Value} {T : List Tok} (h : Kd.R kTok 72 w base (fun _ => True) v T) : ∃ A c, v = .slice A T.length c ∧ T.length ≤ c ∧ TokC w A T := by
 obtain ⟨A, c, rfl, hc, hC⟩ := Kd.R_reads h
 refine ⟨A, c, rfl, hc, hC, ?_⟩
 intro a ha hne
 obtain ⟨g, cap, he, _, _, cells, hg⟩ := Kd.R_form h (by cases T with | nil => exact absurd rfl hne | cons x xs => simp)
 subst ha
 injection he with h1
 injection h1 with h1
 rw [h1]
 exact ⟨cells, hg⟩
theorem wp_world_calls {P : Program} {f : FuncId} {args : Array Value} {R : Ending → World → Prop} {w : World} (F : World → Prop) (hF : F w) (h : ∀ w', F w' → Calls P f args w' R) : Calls P f args w R := h w hF
set_option maxRecDepth 100000 in
theorem run_results {tmps : Array Value} {w : World} {a e : Nat} {p x : Int} (h4 : tmps.getD 4 undef = .pointer (some ⟨a, 0, none⟩)) (h5 : tmps.getD 5 undef = .pointer (some ⟨e, 0, none⟩))
 (ha : w.heap[a]? = some (.cells #[.int .i64 p] 3 (0, 0))) (he : w.heap[e]? = some (.cells #[.int .i64 x] 35 (0, 0))) : (results Tryd.f55 tmps).run Tryd.prog w = .ok (.tuple #[.int .i64 p, .int .i64 x]) w := by
 have a0 : w.cell? ⟨a, 0, none⟩ = some (.int .i64 p) := (blk_cell ha 0).trans rfl
 have e0 : w.cell? ⟨e, 0, none⟩ = some (.int .i64 x) := (blk_cell he 0).trans rfl
 have h4' : tmps[4]?.getD undef = .pointer (some ⟨a, 0, none⟩) := by simpa using h4
 have h5' : tmps[5]?.getD undef = .pointer (some ⟨e, 0, none⟩) := by simpa using h5
 simp [results, Tryd.results55, go_sem, h4', h5', a0, e0]
set_option maxHeartbeats 4000000 in
set_option maxRecDepth 100000 in
theorem run_calls {α : Type} {s : ByteArray} {w : World} {b : Nat} {ob : Obj} (hs : s.size ≤ maxLen) (K : FuncId) (caps : Array Value) (one : List Tok → Nat → PR α) (I : World → α → World → Prop)
 (hE : ∀ (args : Array Value) (w : World), (callFunc K args).run Tryd.prog w = .ok (.enter K args) w) (hb : w.heap[b]? = some ob) (hnt : ∀ cells, ob ≠ .cells cells 72 (0, 0))
 (hK : ∀ T w0 w1 g, TokOk s T → g ≠ b → PAt w0 T s w1 g 0 → Bel w0 w1 → Free w0 b → w1.heap[b]? = some ob → Calls Tryd.prog K (#[.pointer (some ⟨g, 0, none⟩)] ++ caps) w1 (OPost w0 T s g (atomF g b) w1 (I w1) (one T 0)))
 (hI : ∀ w1 a w2 w3 (S : Nat → Prop), I w1 a w2 → Fr S w2 w3 → ¬ S b → (∀ q, w1.heap.size ≤ q → ¬ S q) → I w1 a w3) :
 Calls Tryd.prog 55 #[.string s, .func (.func K) #[] caps] w (RunPost b I w (runP s one)) := by
 have hT := allT_ok s
 have hmf := @hmf
 have hK := Aside0.mk hK
 have hI := Aside0.mk hI
 have hnt := Aside0.mk hnt
 have hrun := Aside0.mk (show runP s one = _ from rfl)
 obtain ⟨r, hr⟩ : ∃ r, r = allT s := ⟨_, rfl⟩
 obtain ⟨T, p, x⟩ := r
 rw [← hr] at hT
 have hE1 := Aside0.mk (show runP s one = if x != 0 then .error (p, x) else match one T 0 with
  | .error p => .error p
  | .ok (a, n) => if n < T.length then .error (posOf T s n, 6) else .ok a by unfold runP; rw [← hr])
 cases hx : (x != 0)
 · have hx0 : x = 0 := by simpa using hx
   subst hx0
   have hE2 := Aside0.mk (show runP s one = match one T 0 with
    | .error p => .error p
    | .ok (a, n) => if n < T.length then .error (posOf T s n, 6) else .ok a by rw [hE1.out]; rfl)
   go_enter_defers Tryd.func55, Tryd.ntmps55
   go_wp2_with fail
   refine (all_calls s _ hs).mono ?_
   rintro e w2 ⟨⟨v, rfl, hR⟩, hB⟩
   rw [← hr] at hR ⊢
   have hF2 : Fr (fun _ => False) w w2 := (((Fr.refl (fun _ => False) w).alloc _).alloc _).trans (Fr.of_below hB)
   have hpa := blk_below (blk_alloc (heap_alloc_new w (.cells #[.int .i64 0] 3)) (.cells #[.int .i64 0] 35)) hB
   have hpe : w2.heap[w.heap.size + 1]? = some (.cells #[.int .i64 0] 35 (0, 0)) := by
    have h := heap_alloc_new (w.alloc (.cells #[.int .i64 0] 3)) (.cells #[.int .i64 0] 35)
    rw [show (w.alloc (.cells #[.int .i64 0] 3)).heap.size = w.heap.size + 1 by simp] at h
    exact blk_below h hB
   have a0 : w2.cell? ⟨w.heap.size, 0, none⟩ = some (.int .i64 0) := (blk_cell hpa 0).trans rfl
   have e0 : w2.cell? ⟨w.heap.size + 1, 0, none⟩ = some (.int .i64 0) := (blk_cell hpe 0).trans rfl
   have fa := blk_frozen hpa 0
   have fe := blk_frozen hpe 0
   obtain ⟨A, c, rfl, hc, hC⟩ := tokC_of_R hR
   have hz2 := blk_lt hpe
   have hbw := blk_lt hb
   have hb2 := Aside0.mk (hF2.blk hb id)
   have hC := Aside0.mk hC
   clear hR hB
   dsimp only
   go_wp2_with fail
   have n1 : w.heap.size ≠ w.heap.size + 1 := by omega
   have n2 : w.heap.size + 1 ≠ w.heap.size := by omega
   have hset : Fr (fun q => q = w.heap.size ∨ q = w.heap.size + 1) w2 (((w2.setCell ⟨w.heap.size, 0, none⟩ (.int .i64 p)).setCell ⟨w.heap.size + 1, 0, none⟩ (.int .i64 0)).alloc (.cells #[.string s, .slice A T.length c, .int .i64 0] 103)) :=
    (((Fr.refl _ w2).set ⟨w.heap.size, 0, none⟩ (Or.inl (Or.inl rfl)) _).set ⟨w.heap.size + 1, 0, none⟩ (Or.inl (Or.inr rfl)) _).alloc _
   have hP3 : PAt w2 T s (((w2.setCell ⟨w.heap.size, 0, none⟩ (.int .i64 p)).setCell ⟨w.heap.size + 1, 0, none⟩ (.int .i64 0)).alloc (.cells #[.string s, .slice A T.length c, .int .i64 0] 103)) w2.heap.size 0 := by
    have h := heap_alloc_new ((w2.setCell ⟨w.heap.size, 0, none⟩ (.int .i64 p)).setCell ⟨w.heap.size + 1, 0, none⟩ (.int .i64 0)) (.cells #[.string s, .slice A T.length c, .int .i64 0] 103)
    rw [show ((w2.setCell ⟨w.heap.size, 0, none⟩ (.int .i64 p)).setCell ⟨w.heap.size + 1, 0, none⟩ (.int .i64 0)).heap.size = w2.heap.size by simp] at h
    exact ⟨A, c, h, Nat.le_refl _, hc, hC.out, Nat.zero_le _⟩
   have hpa3 := blk_alloc (blk_far (p := ⟨w.heap.size + 1, 0, none⟩) (u := .int .i64 0) ((blk_set hpa 0 (.int .i64 p)).trans rfl : (w2.setCell ⟨w.heap.size, 0, none⟩ (.int .i64 p)).heap[w.heap.size]? = some (.cells #[.int .i64 p] 3 (0, 0))) n1) (.cells #[.string s, .slice A T.length c, .int .i64 0] 103)
   have hpe3 := blk_alloc ((blk_set (blk_far (p := ⟨w.heap.size, 0, none⟩) (u := .int .i64 p) hpe n2) 0 (.int .i64 0)).trans rfl : ((w2.setCell ⟨w.heap.size, 0, none⟩ (.int .i64 p)).setCell ⟨w.heap.size + 1, 0, none⟩ (.int .i64 0)).heap[w.heap.size + 1]? = some (.cells #[.int .i64 0] 35 (0, 0))) (.cells #[.string s, .slice A T.length c, .int .i64 0] 103)
   have hB3 : Bel w2 (((w2.setCell ⟨w.heap.size, 0, none⟩ (.int .i64 p)).setCell ⟨w.heap.size + 1, 0, none⟩ (.int .i64 0)).alloc (.cells #[.string s, .slice A T.length c, .int .i64 0] 103)) :=
    (Bel.refl w2).fr hset (fun q hq => Or.inr (by rcases hq with rfl | rfl; exact (fun ⟨cs, q⟩ => by rw [hpa] at q; simp at q); exact (fun ⟨cs, q⟩ => by rw [hpe] at q; simp at q)))
   have hb3 := hset.blk hb2.out (fun q => by rcases q with q | q <;> omega)
   have hF3 : Fr (fun q => q = b) w _ := (hF2.mono (fun _ q => q.elim)).step hset (fun q hq => Or.inr (by rcases hq with rfl | rfl <;> omega))
   have hg : w2.heap.size ≠ b := by omega
   have hz3 := hset.size
   refine wp_world_calls (fun w' => PAt w2 T s w' w2.heap.size 0 ∧ Bel w2 w' ∧ w'.heap[b]? = some ob ∧ Fr (fun q => q = b) w w' ∧ w'.heap[w.heap.size]? = some (.cells #[.int .i64 p] 3 (0, 0)) ∧ w'.heap[w.heap.size + 1]? = some (.cells #[.int .i64 0] 35 (0, 0)) ∧ w2.heap.size ≤ w'.heap.size) ⟨hP3, hB3, hb3, hF3, hpa3, hpe3, hz3⟩ ?_
   clear hset hP3 hpa3 hpe3 hB3 hb3 hF3 hz3 a0 e0 fa fe
   rintro w4 ⟨hP4, hB4, hb4, hF4, hpa4, hpe4, hz4⟩
   refine (hK.out T w2 w4 w2.heap.size hT hg hP4 hB4 (Or.inr (fun ⟨cs, q⟩ => by rw [hb2.out] at q; exact hnt.out cs (by simpa using q))) hb4).mono ?_
   intro e w5 hp
   obtain ⟨r, hr'⟩ : ∃ r, r = one T 0 := ⟨_, rfl⟩
   rw [← hr'] at hp
   cases r with
   | error q =>
     obtain ⟨p', x'⟩ := q
     obtain ⟨rfl, hF5⟩ := hp
     have hE3 := Aside0.mk (show runP s one = .error (p', x') by rw [hE2.out, ← hr'])
     have hpa5 := hF5.blk hpa4 (fun q => by rcases q with q | q <;> omega)
     have hpe5 := hF5.blk hpe4 (fun q => by rcases q with q | q <;> omega)
     have hF6 := hF4.step hF5 (fun q hq => by rcases hq with rfl | rfl; exact Or.inr (by omega); exact Or.inl rfl)
     clear hr'
     go_wp2
     refine leaves_cons (f := 79) (args := #[.pointer (some ⟨w.heap.size, 0, none⟩), .pointer (some ⟨w.heap.size + 1, 0, none⟩)]) (by simp) (by simp [go_sem]) ?_
     refine (catch_stop w.heap.size (w.heap.size + 1) n1 w5 p' x' p 0 [] hpa5 hpe5).mono ?_
     rintro e u' w6 ⟨rfl, rfl, hF7, hA, hEE⟩
     rw [hE3.out]
     exact ⟨_, run_results rfl rfl hA hEE, rfl, hF6.step hF7 (fun q hq => Or.inr (by rcases hq with rfl | rfl <;> omega))⟩
   | ok r =>
     obtain ⟨a, n⟩ := r
     obtain ⟨rfl, hP5, hI5, hF5⟩ := hp
     have hE3 := Aside0.mk (show runP s one = if n < T.length then .error (posOf T s n, 6) else .ok a by rw [hE2.out, ← hr'])
     have hpa5 := hF5.blk hpa4 (fun q => by rcases q with q | q <;> omega)
     have hpe5 := hF5.blk hpe4 (fun q => by rcases q with q | q <;> omega)
     have hF6 := hF4.step hF5 (fun q hq => by rcases hq with rfl | rfl; exact Or.inr (by omega); exact Or.inl rfl)
     have hB5 := hB4.fr hF5 (fun q hq => by rcases hq with rfl | rfl; exact Or.inl (Nat.le_refl _); exact Or.inr (fun ⟨cs, q⟩ => by rw [hb2.out] at q; exact hnt.out cs (by simpa using q)))
     have hz5 := hF5.size
     obtain ⟨A5, c5, p0, p1, p2, q2, hm5, hc5, _⟩ := hP5.cells
     have hmx := hP5.max
     clear hr' hP4 hB4 hb4 hF4 hpa4 hpe4 hF5
     by_cases hl : n < T.length
     · have hd : decide ((n : Int) < (T.length : Int)) = true := by simp; omega
       have hE4 := Aside0.mk (show runP s one = .error (posOf T s n, 6) by rw [hE3.out, if_pos hl])
       go_wp2_with fail
       go_region
       go_wp2_with fail
       refine (fail_calls 6 (w := w5.drew) hP5.drew hB5.drew).mono ?_; rintro e w7 ⟨rfl, hd7⟩
       have hpa7 := blk_drawn (w := w5.drew) hpa5 hd7
       have hpe7 := blk_drawn (w := w5.drew) hpe5 hd7
       have hF7 := hF6.drew.drawn hd7
       go_wp2
       refine leaves_cons (f := 79) (args := #[.pointer (some ⟨w.heap.size, 0, none⟩), .pointer (some ⟨w.heap.size + 1, 0, none⟩)]) (by simp) (by simp [go_sem]) ?_
       refine (catch_stop w.heap.size (w.heap.size + 1) n1 w7 _ 6 p 0 [] hpa7 hpe7).mono ?_
       rintro e u' w8 ⟨rfl, rfl, hF8, hA, hEE⟩
       rw [hE4.out]
       exact ⟨_, run_results rfl rfl hA hEE, rfl, hF7.step hF8 (fun q hq => Or.inr (by rcases hq with rfl | rfl <;> omega))⟩
     · have hd : decide ((n : Int) < (T.length : Int)) = false := by simp; omega
       have hE4 := Aside0.mk (show runP s one = .ok a by rw [hE3.out, if_neg hl])
       have a0 : w5.cell? ⟨w.heap.size, 0, none⟩ = some (.int .i64 p) := (blk_cell hpa5 0).trans rfl
       have e0 : w5.cell? ⟨w.heap.size + 1, 0, none⟩ = some (.int .i64 0) := (blk_cell hpe5 0).trans rfl
       have fa := blk_frozen hpa5 0
       have fe := blk_frozen hpe5 0
       go_wp2_with fail
       go_region
       go_wp2
       refine leaves_cons (f := 79) (args := #[.pointer (some ⟨w.heap.size, 0, none⟩), .pointer (some ⟨w.heap.size + 1, 0, none⟩)]) (by simp) (by simp [go_sem]) ?_
       refine (catch_idle ⟨w.heap.size, 0, none⟩ ⟨w.heap.size + 1, 0, none⟩ _).mono ?_
       rintro e u' w8 ⟨rfl, rfl, rfl⟩
       rw [hE4.out]
       have hfin : Fr (fun q => q = w.heap.size ∨ q = w.heap.size + 1) w5 (((w5.setCell ⟨w.heap.size, 0, none⟩ (.int .i64 0)).setCell ⟨w.heap.size + 1, 0, none⟩ (.int .i64 0)).drew) :=
        (((Fr.refl _ w5).set ⟨w.heap.size, 0, none⟩ (Or.inl (Or.inl rfl)) _).set ⟨w.heap.size + 1, 0, none⟩ (Or.inl (Or.inr rfl)) _).drew
       exact ⟨_, run_results rfl rfl (blk_drew (blk_far (p := ⟨w.heap.size + 1, 0, none⟩) ((blk_set hpa5 0 _).trans rfl) n1)) (blk_drew ((blk_set (blk_far (p := ⟨w.heap.size, 0, none⟩) hpe5 n2) 0 _).trans rfl)), rfl,
        ⟨w4, by omega, hI.out w4 a w5 _ _ hI5 hfin (fun q => by rcases q with q | q <;> omega) (fun q hq hh => by rcases hh with hh | hh <;> omega)⟩, hF6.step hfin (fun q hq => Or.inr (by rcases hq with rfl | rfl <;> omega))⟩
 · have hE2 := Aside0.mk (show runP s one = .error (p, x) by rw [hE1.out, hx]; rfl)
   go_enter_defers Tryd.func55, Tryd.ntmps55
   go_wp2_with fail
   refine (all_calls s _ hs).mono ?_
   rintro e w2 ⟨⟨v, rfl, hR⟩, hB⟩
   rw [← hr] at hR ⊢
   have hF2 : Fr (fun _ => False) w w2 := (((Fr.refl (fun _ => False) w).alloc _).alloc _).trans (Fr.of_below hB)
   have hpa := blk_below (blk_alloc (heap_alloc_new w (.cells #[.int .i64 0] 3)) (.cells #[.int .i64 0] 35)) hB
   have hpe : w2.heap[w.heap.size + 1]? = some (.cells #[.int .i64 0] 35 (0, 0)) := by
    have h := heap_alloc_new (w.alloc (.cells #[.int .i64 0] 3)) (.cells #[.int .i64 0] 35)
    rw [show (w.alloc (.cells #[.int .i64 0] 3)).heap.size = w.heap.size + 1 by simp] at h
    exact blk_below h hB
   have a0 : w2.cell? ⟨w.heap.size, 0, none⟩ = some (.int .i64 0) := (blk_cell hpa 0).trans rfl
   have e0 : w2.cell? ⟨w.heap.size + 1, 0, none⟩ = some (.int .i64 0) := (blk_cell hpe 0).trans rfl
   have fa := blk_frozen hpa 0
   have fe := blk_frozen hpe 0
   clear hR hB
   dsimp only
   go_wp2_with fail
   refine wp_world (fun w' => Fr (fun _ => False) w w' ∧ w'.heap[w.heap.size]? = some (.cells #[.int .i64 p] 3 (0, 0)) ∧ w'.heap[w.heap.size + 1]? = some (.cells #[.int .i64 x] 35 (0, 0)))
    ⟨(hF2.set ⟨w.heap.size, 0, none⟩ (Or.inr (Nat.le_refl _)) _).set ⟨w.heap.size + 1, 0, none⟩ (Or.inr (by simp)) _, blk_far (p := ⟨w.heap.size + 1, 0, none⟩) ((blk_set hpa 0 _).trans rfl) (by simp), (blk_set (blk_far (p := ⟨w.heap.size, 0, none⟩) hpe (by simp)) 0 _).trans rfl⟩ ?_
   clear a0 e0 fa fe
   rintro w3 ⟨hF3, hpa3, hpe3⟩
   have a0 : w3.cell? ⟨w.heap.size, 0, none⟩ = some (.int .i64 p) := (blk_cell hpa3 0).trans rfl
   have e0 : w3.cell? ⟨w.heap.size + 1, 0, none⟩ = some (.int .i64 x) := (blk_cell hpe3 0).trans rfl
   have fa := blk_frozen hpa3 0
   have fe := blk_frozen hpe3 0
   have n1 : w.heap.size ≠ w.heap.size + 1 := by omega
   have n2 : w.heap.size + 1 ≠ w.heap.size := by omega
   go_region
   go_wp2
   rw [hE2.out]
   exact ⟨_, run_results rfl rfl (blk_drew (blk_far (p := ⟨w.heap.size + 1, 0, none⟩) ((blk_set hpa3 0 _).trans rfl) n1)) (blk_drew ((blk_set (blk_far (p := ⟨w.heap.size, 0, none⟩) hpe3 n2) 0 _).trans rfl)),
    rfl, (((hF3.mono (fun _ q => q.elim)).set ⟨w.heap.size, 0, none⟩ (Or.inr (Nat.le_refl _)) _).set ⟨w.heap.size + 1, 0, none⟩ (Or.inr (by simp)) _).drew⟩
end Go.Proofs.YtfhpecgknmfnnaaDoor.M
end
section
namespace Go.Proofs.YtfhpecgknmfnnaaDoor.M
open Go.RowKit Go.Proofs.YtfhpecgknmfnnaaDoorW.PrintWords Go.Proofs.YtfhpecgknmfnnaaDoorW.PrintMore Go.Proofs.YtfhpecgknmfnnaaDoorW.PrintLast
attribute [local go_sem] max2_int min2_int max_two min_two
def ErrOk {α : Type} (r : Except (Int × Int) α) : Prop := ∀ q, r = .error q → q.2 ≠ 0
theorem takeP_err (T : List Tok) (s : ByteArray) (ks : List Int) (n : Nat) : ErrOk (takeP T s ks n) := by
 intro q h
 unfold takeP at h
 split at h
 · cases h
 · cases h; simp
theorem needP_err (T : List Tok) (s : ByteArray) (x : ByteArray) (n : Nat) : ErrOk (needP T s x n) := by
 intro q h
 unfold needP at h
 split at h
 · cases h
 · cases h; simp
theorem termP_err (T : List Tok) (s : ByteArray) (n : Nat) : ErrOk (termP T s n) := by
 intro q h
 unfold termP at h
 split at h
 · rename_i e; cases h; exact takeP_err T s _ n _ e
 · cases h
theorem tailP_err {α : Type} (T : List Tok) (s : ByteArray) (one : Nat → PR α) (h1 : ∀ n, ErrOk (one n)) : ∀ r m, ErrOk (tailP T s one r m)
 | 0, m => by
   intro q h
   unfold tailP at h
   split at h
   · cases h; simp
   · cases h
 | r + 1, m => by
   intro q h
   unfold tailP at h
   split at h
   · split at h
     · rename_i e; cases h; exact h1 _ _ e
     · split at h
       · rename_i e; cases h; exact tailP_err T s one h1 _ _ _ e
       · cases h
   · cases h
theorem addL_err {α : Type} (acc : List α) (r : PR (List α)) (h : ErrOk r) : ErrOk (addL acc r) := by
 intro q hq
 cases r with
 | error p => cases hq; exact h _ rfl
 | ok x => cases hq
theorem listP_err {α : Type} (T : List Tok) (s : ByteArray) (one : Nat → PR α) (most n : Nat) (h1 : ∀ n, ErrOk (one n)) : ErrOk (listP T s one most n) := by
 intro q h
 unfold listP at h
 split at h
 · rename_i e; cases h; exact h1 _ _ e
 · exact addL_err _ _ (tailP_err T s one h1 _ _) _ h
theorem atomP_err (T : List Tok) (s : ByteArray) (n : Nat) : ErrOk (atomP T s n) := by
 intro q h
 unfold atomP at h
 split at h
 · rename_i e; cases h; exact takeP_err T s _ _ _ e
 · split at h
   · split at h
     · rename_i e; cases h; exact listP_err T s _ _ _ (termP_err T s) _ e
     · split at h
       · rename_i e; cases h; exact needP_err T s _ _ _ e
       · cases h
   · cases h
theorem saidP_err (T : List Tok) (s : ByteArray) (n : Nat) : ErrOk (saidP T s n) := by
 intro q h
 unfold saidP at h
 split at h
 · split at h
   · rename_i e; cases h; exact termP_err T s _ _ e
   · split at h
     · rename_i e; cases h; exact needP_err T s _ _ _ e
     · split at h
       · rename_i e; cases h; exact atomP_err T s _ _ e
       · cases h
 · split at h
   · rename_i e; cases h; exact atomP_err T s _ _ e
   · cases h
theorem saidL_err (k : Int) (r : PR (Term × (ByteArray × List Term))) (h : ErrOk r) : ErrOk (saidL k r) := by
 intro q hq
 cases r with
 | error p => cases hq; exact h _ rfl
 | ok x => cases hq
theorem pairP_err (T : List Tok) (s : ByteArray) (k : Int) (a : Term) (m : Nat) : ErrOk (pairP T s k a m) := by
 intro q h
 unfold pairP at h
 split at h
 · rename_i e; cases h; exact termP_err T s _ _ e
 · cases h
theorem literalP_err (T : List Tok) (s : ByteArray) (n : Nat) : ErrOk (literalP T s n) := by
 intro q h
 unfold literalP at h
 split at h
 · exact saidL_err _ _ (saidP_err T s _) _ h
 · split at h
   · split at h
     · rename_i e; cases h; exact termP_err T s _ _ e
     · split at h
       · exact pairP_err T s _ _ _ _ h
       · split at h
         · exact pairP_err T s _ _ _ _ h
         · cases h; simp
   · exact saidL_err _ _ (saidP_err T s _) _ h
theorem clauseP_err (T : List Tok) (s : ByteArray) (n : Nat) : ErrOk (clauseP T s n) := by
 intro q h
 unfold clauseP at h
 split at h
 · rename_i e; cases h; exact atomP_err T s _ _ e
 · split at h
   · rename_i e
     cases h
     unfold bodyP at e
     split at e
     · exact listP_err T s _ _ _ (literalP_err T s) _ e
     · cases e
   · split at h
     · rename_i e; cases h; exact needP_err T s _ _ _ e
     · cases h
theorem runP_err {α : Type} (s : ByteArray) (one : List Tok → Nat → PR α) (h1 : ∀ T n, ErrOk (one T n)) : ErrOk (runP s one) := by
 intro q h
 unfold runP at h
 split at h
 · rename_i e; cases h; simpa using e
 · split at h
   · rename_i e; cases h; exact h1 _ _ _ e
   · split at h
     · cases h; simp
     · cases h
def parseP (s : ByteArray) : Except (Int × Int) Clause := runP s (fun T n => clauseP T s n)
abbrev clauseV (c : Clause) (av bv : Value) : Value := .agg #[.int .u8 c.head.kind, .string c.head.who.var, .string c.head.who.val.sym, .int .i64 c.head.who.val.num, .string c.head.pred, av, bv]
abbrev zeroC : Obj := .cells #[.int .u8 0, .string ⟨#[]⟩, .string ⟨#[]⟩, .int .i64 0, .string ⟨#[]⟩, .slice none 0 0, .slice none 0 0] 31
abbrev oneC : Obj := .cells #[.int .u8 1, .string ⟨#[]⟩, .string ⟨#[]⟩, .int .i64 0, .string ⟨#[]⟩, .slice none 0 0, .slice none 0 0] 31
def ParsePost (w : World) (r : Except (Int × Int) Clause) (e : Ending) (w' : World) : Prop := match r with
 | .error (p, x) => e = .returned (.tuple #[clauseV Clause.z (.slice none 0 0) (.slice none 0 0), .int .i64 p, .int .i64 x]) ∧ Below w.heap.size w w'
 | .ok c => (∃ av bv, e = .returned (.tuple #[clauseV c av bv, .int .i64 0, .int .i64 0]) ∧ Kd.R kTerm 25 w' w.heap.size (fun q => w.heap.size ≤ q) av c.head.args ∧ Kd.R kLit 28 w' w.heap.size (fun q => w.heap.size ≤ q) bv c.body) ∧ Below w.heap.size w w'
theorem results_ctt' {fn : Func} {p u v : Tmp} {ty : TypeId} (h : fn.results = #[.cell p ty, .tmp u, .tmp v]) (tmps : Array Value) (w : World) (g : Nat) (t : TypeId) (cs : Array Value) (fr : Nat × Nat) {fs : Array Field}
 (hp : tmps.getD p undef = .pointer (some ⟨g, 0, none⟩)) (hg : w.heap[g]? = some (.cells cs t fr))
 (hu : Tryd.prog.underlying ty = some (.struct fs)) (hi : (Tryd.prog.info? ty).map (·.size) = some cs.size) :
 (results fn tmps).run Tryd.prog w = .ok (.tuple #[.agg cs, tmps.getD u undef, tmps.getD v undef]) w := by
 have hp' : tmps[p]?.getD undef = .pointer (some ⟨g, 0, none⟩) := by simpa using hp
 simp [results, h, hp', asAddr, run_loadVar_row w g t ty cs fr _ hg hu rfl hi]
def clSet (w : World) (b : Nat) (c : Clause) (av bv : Value) : World := ((((((w.setCell ⟨b, 0, none⟩ (.int .u8 c.head.kind)).setCell ⟨b, 1, none⟩ (.string c.head.who.var)).setCell ⟨b, 2, none⟩ (.string c.head.who.val.sym)).setCell ⟨b, 3, none⟩ (.int .i64 c.head.who.val.num)).setCell ⟨b, 4, none⟩ (.string c.head.pred)).setCell ⟨b, 5, none⟩ av).setCell ⟨b, 6, none⟩ bv
theorem clSet_blk {w : World} {b : Nat} {c : Clause} {av bv : Value} (h : w.heap[b]? = some zeroC) :
 (clSet w b c av bv).heap[b]? = some (.cells #[.int .u8 c.head.kind, .string c.head.who.var, .string c.head.who.val.sym, .int .i64 c.head.who.val.num, .string c.head.pred, av, bv] 31 (0, 0)) := by
 have h2 := blk_set (blk_set (blk_set (blk_set (blk_set (blk_set (blk_set h 0 (.int .u8 c.head.kind)) 1 (.string c.head.who.var)) 2 (.string c.head.who.val.sym)) 3 (.int .i64 c.head.who.val.num)) 4 (.string c.head.pred)) 5 av) 6 bv
 exact h2.trans (congrArg (fun c => some (Obj.cells c 31 (0, 0))) (by simp))
theorem clSet_fr {w w' : World} {S : Nat → Prop} {b : Nat} {c : Clause} {av bv : Value} (h : Fr S w w') (hx : S b ∨ w.heap.size ≤ b) : Fr S w (clSet w' b c av bv) :=
 ((((((h.set ⟨b, 0, none⟩ hx _).set ⟨b, 1, none⟩ hx _).set ⟨b, 2, none⟩ hx _).set ⟨b, 3, none⟩ hx _).set ⟨b, 4, none⟩ hx _).set ⟨b, 5, none⟩ hx _).set ⟨b, 6, none⟩ hx _
set_option maxRecDepth 100000 in
theorem parse_end {w5 : World} {R : Ending → World → Prop} {c : Clause} {av bv : Value} {b : Nat} {p x : Int} {a : Act} (hd : a.defers = []) (h2 : a.tmps.getD 2 undef = .pointer (some ⟨b, 0, none⟩)) (h3 : a.tmps.getD 3 undef = .int .i64 p) (h4 : a.tmps.getD 4 undef = .int .i64 x)
 (hL : w5.heap[b]? = some zeroC) (hR : R (.returned (.tuple #[clauseV c av bv, .int .i64 p, .int .i64 x])) (clSet w5 b c av bv)) :
 bodyPost Tryd.prog Tryd.f39 R .ret a (clSet w5 b c av bv) := by
 refine bodyPost_ret (results_ctt' (fn := Tryd.f39) (p := 2) (u := 3) (v := 4) rfl _ _ b 31 _ (0, 0) h2 (clSet_blk hL) (by rfl) (by rfl)) hd ?_
 rw [h3, h4]
 exact hR
set_option maxHeartbeats 4000000 in
set_option maxRecDepth 100000 in
theorem parse_calls (s : ByteArray) (w : World) (hs : s.size ≤ maxLen) : Calls Tryd.prog 39 #[.string s] w (ParsePost w (parseP s)) := by
 have hmf := @hmf
 have hb : ((w.alloc zeroC).alloc oneC).heap[w.heap.size + 1]? = some oneC := by
  have h := heap_alloc_new (w.alloc zeroC) oneC
  rwa [show (w.alloc zeroC).heap.size = w.heap.size + 1 by simp] at h
 have hE31 := Aside0.mk (fun (args : Array Value) (w : World) => enters_ (f := 56) (P := Tryd.prog) Tryd.func56 (by kernel_rfl) rfl args w)
 have hrun := run_calls (w := (w.alloc zeroC).alloc oneC) (b := w.heap.size + 1) (ob := oneC) hs 56 #[.pointer (some ⟨w.heap.size + 1, 0, none⟩)] (fun T n => clauseP T s n) (fun w1 c w' => ClauseO (w.heap.size + 1) w1 c w') hE31.out hb (fun cs h => by simp at h)
  (fun T w0 w1 g hT hg hP hB hf hbb => clause1_calls hT hg hP hB hf hbb)
  (fun w1 c w2 w3 S hI hF hS hq => by obtain ⟨av, bv, h1, h2, h3⟩ := hI; exact ⟨av, bv, hF.blk h1 hS, hF.R h2 hq, hF.R h3 hq⟩)
 replace hrun := Aside0.mk hrun
 have hd0 := blk_alloc (heap_alloc_new w zeroC) oneC
 have hF0 : Fr (fun _ => False) w ((w.alloc zeroC).alloc oneC) := ((Fr.refl _ w).alloc _).alloc _
 obtain ⟨r, hr⟩ : ∃ r, r = parseP s := ⟨_, rfl⟩
 rw [← hr]
 go_enter Tryd.func39, Tryd.ntmps39
 go_wp2_with fail
 refine hrun.out.mono ?_
 intro e w5 hp
 rw [show runP s (fun T n => clauseP T s n) = r from hr.symm] at hp
 clear hrun
 cases r with
 | error q =>
   obtain ⟨p, x⟩ := q
   obtain ⟨rfl, hF⟩ := hp
   have hD := hF.blk hd0 (fun q => by have : w.heap.size = w.heap.size + 1 := q; omega)
   have d0 : w5.cell? ⟨w.heap.size, 0, none⟩ = some (.int .u8 0) := (blk_cell hD 0).trans rfl
   have d1 : w5.cell? ⟨w.heap.size, 1, none⟩ = some (.string ⟨#[]⟩) := (blk_cell hD 1).trans rfl
   have d2 : w5.cell? ⟨w.heap.size, 2, none⟩ = some (.string ⟨#[]⟩) := (blk_cell hD 2).trans rfl
   have d3 : w5.cell? ⟨w.heap.size, 3, none⟩ = some (.int .i64 0) := (blk_cell hD 3).trans rfl
   have d4 : w5.cell? ⟨w.heap.size, 4, none⟩ = some (.string ⟨#[]⟩) := (blk_cell hD 4).trans rfl
   have d5 : w5.cell? ⟨w.heap.size, 5, none⟩ = some (.slice none 0 0) := (blk_cell hD 5).trans rfl
   have d6 : w5.cell? ⟨w.heap.size, 6, none⟩ = some (.slice none 0 0) := (blk_cell hD 6).trans rfl
   have f0 := blk_frozen hD 0
   have f1 := blk_frozen hD 1
   have f2 := blk_frozen hD 2
   have f3 := blk_frozen hD 3
   have f4 := blk_frozen hD 4
   have f5 := blk_frozen hD 5
   have f6 := blk_frozen hD 6
   have hx : (x != 0) = true := by simpa using runP_err s _ (fun T n => clauseP_err T s n) (p, x) (show runP s (fun T n => clauseP T s n) = _ from hr.symm)
   go_wp2
   exact parse_end (w5 := w5) (b := w.heap.size) (p := p) (x := x) (c := Clause.z) (av := .slice none 0 0) (bv := .slice none 0 0) rfl rfl rfl rfl hD
    ⟨rfl, (clSet_fr (S := fun _ => False) (hF0.step hF (fun q hq => Or.inr (by omega))) (Or.inr (Nat.le_refl _))).below (Nat.le_refl _) (fun _ q => q.elim)⟩
 | ok c =>
   obtain ⟨rfl, ⟨w1, hz1, av, bv, hL, hR1, hR2⟩, hF⟩ := hp
   have hD := hF.blk hd0 (fun q => by have : w.heap.size = w.heap.size + 1 := q; omega)
   obtain ⟨A1, c1, rfl⟩ := Kd.R_slice hR1
   obtain ⟨A2, c2, rfl⟩ := Kd.R_slice hR2
   have d0 : w5.cell? ⟨w.heap.size, 0, none⟩ = some (.int .u8 0) := (blk_cell hD 0).trans rfl
   have d1 : w5.cell? ⟨w.heap.size, 1, none⟩ = some (.string ⟨#[]⟩) := (blk_cell hD 1).trans rfl
   have d2 : w5.cell? ⟨w.heap.size, 2, none⟩ = some (.string ⟨#[]⟩) := (blk_cell hD 2).trans rfl
   have d3 : w5.cell? ⟨w.heap.size, 3, none⟩ = some (.int .i64 0) := (blk_cell hD 3).trans rfl
   have d4 : w5.cell? ⟨w.heap.size, 4, none⟩ = some (.string ⟨#[]⟩) := (blk_cell hD 4).trans rfl
   have d5 : w5.cell? ⟨w.heap.size, 5, none⟩ = some (.slice none 0 0) := (blk_cell hD 5).trans rfl
   have d6 : w5.cell? ⟨w.heap.size, 6, none⟩ = some (.slice none 0 0) := (blk_cell hD 6).trans rfl
   have f0 := blk_frozen hD 0
   have f1 := blk_frozen hD 1
   have f2 := blk_frozen hD 2
   have f3 := blk_frozen hD 3
   have f4 := blk_frozen hD 4
   have f5 := blk_frozen hD 5
   have f6 := blk_frozen hD 6
   have e0 : w5.cell? ⟨w.heap.size + 1, 0, none⟩ = some (.int .u8 c.head.kind) := (blk_cell hL 0).trans rfl
   have e1 : w5.cell? ⟨w.heap.size + 1, 1, none⟩ = some (.string c.head.who.var) := (blk_cell hL 1).trans rfl
   have e2 : w5.cell? ⟨w.heap.size + 1, 2, none⟩ = some (.string c.head.who.val.sym) := (blk_cell hL 2).trans rfl
   have e3 : w5.cell? ⟨w.heap.size + 1, 3, none⟩ = some (.int .i64 c.head.who.val.num) := (blk_cell hL 3).trans rfl
   have e4 : w5.cell? ⟨w.heap.size + 1, 4, none⟩ = some (.string c.head.pred) := (blk_cell hL 4).trans rfl
   have e5 : w5.cell? ⟨w.heap.size + 1, 5, none⟩ = some (.slice A1 c.head.args.length c1) := (blk_cell hL 5).trans rfl
   have e6 : w5.cell? ⟨w.heap.size + 1, 6, none⟩ = some (.slice A2 c.body.length c2) := (blk_cell hL 6).trans rfl
   go_wp2
   have hz : w.heap.size + 2 ≤ w1.heap.size := by simpa using hz1
   have hfar : ∀ q, w1.heap.size ≤ q → ¬ (q = w.heap.size) := fun q hq e => by omega
   exact parse_end (w5 := w5) (b := w.heap.size) (p := 0) (x := 0) (c := c) (av := .slice A1 c.head.args.length c1) (bv := .slice A2 c.body.length c2) rfl rfl rfl rfl hD
    ⟨⟨_, _, rfl, Kd.R_mono (Kd.R_lower ((clSet_fr (S := fun q => q = w.heap.size) (Fr.refl _ w5) (Or.inl rfl)).R hR1 hfar) (by omega)) (fun q hq => by omega), Kd.R_mono (Kd.R_lower ((clSet_fr (S := fun q => q = w.heap.size) (Fr.refl _ w5) (Or.inl rfl)).R hR2 hfar) (by omega)) (fun q hq => by omega)⟩,
     (clSet_fr (S := fun _ => False) (hF0.step hF (fun q hq => Or.inr (by omega))) (Or.inr (Nat.le_refl _))).below (Nat.le_refl _) (fun _ q => q.elim)⟩
end Go.Proofs.YtfhpecgknmfnnaaDoor.M
end
