/- Proofs over the small language, step by step: the code that is still to come stands as data. -/
import Derived.Test.YtmjdgpiofhildaaDoorAbs20
namespace Go.Proofs.YtmjdgpiofhildaaDoor
open Go.RowKit

/-- What is still to come. -/
inductive MK where
  | seq (b : MC)
  | blk (id : Nat)
  | loop (dead : List Nat) (a : MC) (n : Nat)

def contM (G : Gam) : List MK → MPost → MPost
  | [], Q => Q
  | .seq b :: ks, Q => seqQ (fun _ env fr h => wpM G b (contM G ks Q) env fr h) (contM G ks Q)
  | .blk id :: ks, Q => blkQ id (contM G ks Q)
  | .loop d a n :: ks, Q => seqQ (fun _ _ fr h => LoopM G d a n (contM G ks Q) fr h) (contM G ks Q)

/-- Code comes up. -/
def goM (G : Gam) (c : MC) (ks : List MK) (Q : MPost) (env fr : List (Nat × AV)) (h : Heap) : Prop := wpM G c (contM G ks Q) env fr h
/-- Something is over. -/
def exM (G : Gam) (x : MX) (ks : List MK) (Q : MPost) (env fr : List (Nat × AV)) (h : Heap) : Prop := contM G ks Q x env fr h
/-- A loop's head. -/
def headM (G : Gam) (d : List Nat) (a : MC) (n : Nat) (ks : List MK) (Q : MPost) (fr : List (Nat × AV)) (h : Heap) : Prop := LoopM G d a n (contM G ks Q) fr h
/-- Operations come up. -/
def regM (G : Gam) (s : Bool) (is : List MI) (ks : List MK) (Q : MPost) (env fr : List (Nat × AV)) (h : Heap) : Prop := after (contM G ks Q) (run G s is (.ok env fr h))
/-- An operation has yielded. -/
def bindM (G : Gam) (s : Bool) (dst : Option Nat) (kept : Bool) (is : List MI) (ks : List MK) (Q : MPost) (env fr : List (Nat × AV)) : Option (AV × Heap) → Prop
  | none => False
  | some (v, h) => match dst with
    | none => regM G s is ks Q env fr h
    | some t => if kept then regM G s is ks Q env (upd t v fr) h else regM G s is ks Q ((t, v) :: env) fr h
/-- What an operation yields, its operands known. -/
def opV (G : Gam) (s : Bool) (h : Heap) (o : AO) : Option (List AV) → Option (AV × Heap)
  | some vs => if s && !o.loud then (evalStill G h o vs).map fun v => (v, h) else evalAO G h o vs
  | none => none
def guardV (want : Bool) (h : Heap) (r : Option (AV × Heap)) : Option AV → Option (AV × Heap)
  | some (.bool b) => if b = want then r else some (skipped, h)
  | some (.tup []) => some (skipped, h)
  | _ => none

section
variable {G : Gam} {s : Bool} {ks : List MK} {Q : MPost} {env fr : List (Nat × AV)} {h : Heap}

theorem wpM_go {c : MC} : wpM G c Q env fr h = goM G c [] Q env fr h := rfl
@[simp] theorem go_skip : goM G .skip ks Q env fr h = exM G .normal ks Q env fr h := rfl
@[simp] theorem go_ret : goM G .ret ks Q env fr h = exM G .ret ks Q env fr h := rfl
@[simp] theorem go_exit {id : Nat} : goM G (.exit id) ks Q env fr h = exM G (.exit id) ks Q env fr h := rfl
@[simp] theorem go_seq {a b : MC} : goM G (.seq a b) ks Q env fr h = goM G a (.seq b :: ks) Q env fr h := rfl
@[simp] theorem go_blk {id : Nat} {a : MC} : goM G (.blk id a) ks Q env fr h = goM G a (.blk id :: ks) Q env fr h := rfl
@[simp] theorem go_loop {d : List Nat} {a : MC} : goM G (.loop d a) ks Q env fr h = headM G d a h.length ks Q fr h := wpM_loop
@[simp] theorem go_reg {is : List MI} : goM G (.reg is) ks Q env fr h = regM G false is ks Q [] fr h := wpM_reg
@[simp] theorem go_rgd {is : List MI} : goM G (.rgd is) ks Q env fr h = regM G true is ks Q [] fr h := wpM_rgd
theorem go_ite_true {c : At} {a b : MC} (hc : getA (getT env fr) c = some (.bool true)) : goM G (.ite c a b) ks Q env fr h = goM G a ks Q env fr h := by
  simp only [goM, wpM_ite, hc, choose2, if_true]
theorem go_ite_false {c : At} {a b : MC} (hc : getA (getT env fr) c = some (.bool false)) : goM G (.ite c a b) ks Q env fr h = goM G b ks Q env fr h := by
  simp only [goM, wpM_ite, hc, choose2, Bool.false_eq_true, if_false]
/-- A choice: its condition looked up first. -/
def iteM (G : Gam) (a b : MC) (ks : List MK) (Q : MPost) (env fr : List (Nat × AV)) (h : Heap) : Option AV → Prop
  | some (.bool t) => goM G (if t then a else b) ks Q env fr h
  | _ => False
@[simp] theorem go_ite {c : At} {a b : MC} : goM G (.ite c a b) ks Q env fr h = iteM G a b ks Q env fr h (getA (getT env fr) c) := by
  simp only [goM, wpM_ite]
  generalize getA (getT env fr) c = r
  cases r with
  | none => rfl
  | some v => cases v <;> first | rfl | (rename_i t; cases t <;> rfl)
@[simp] theorem ite_true' {a b : MC} : iteM G a b ks Q env fr h (some (.bool true)) = goM G a ks Q env fr h := rfl
@[simp] theorem ite_false' {a b : MC} : iteM G a b ks Q env fr h (some (.bool false)) = goM G b ks Q env fr h := rfl
theorem ite_split {a b : MC} {t : Bool} (h1 : t = true → goM G a ks Q env fr h) (h2 : t = false → goM G b ks Q env fr h) : iteM G a b ks Q env fr h (some (.bool t)) := by
  cases t
  · exact h2 rfl
  · exact h1 rfl

@[simp] theorem ex_nil {x : MX} : exM G x [] Q env fr h = Q x env fr h := rfl
@[simp] theorem ex_normal_seq {b : MC} : exM G .normal (.seq b :: ks) Q env fr h = goM G b ks Q env fr h := rfl
@[simp] theorem ex_exit_seq {b : MC} {i : Nat} : exM G (.exit i) (.seq b :: ks) Q env fr h = exM G (.exit i) ks Q env fr h := rfl
@[simp] theorem ex_ret_seq {b : MC} : exM G .ret (.seq b :: ks) Q env fr h = exM G .ret ks Q env fr h := rfl
@[simp] theorem ex_normal_blk {id : Nat} : exM G .normal (.blk id :: ks) Q env fr h = exM G .normal ks Q env fr h := rfl
@[simp] theorem ex_ret_blk {id : Nat} : exM G .ret (.blk id :: ks) Q env fr h = exM G .ret ks Q env fr h := rfl
@[simp] theorem ex_exit_blk {id i : Nat} : exM G (.exit i) (.blk id :: ks) Q env fr h = exM G (if i = id then .normal else .exit i) ks Q env fr h := by
  simp only [exM, contM, blkQ]; split <;> rfl
@[simp] theorem ex_normal_loop {d : List Nat} {a : MC} {n : Nat} : exM G .normal (.loop d a n :: ks) Q env fr h = headM G d a n ks Q fr h := rfl
@[simp] theorem ex_exit_loop {d : List Nat} {a : MC} {n i : Nat} : exM G (.exit i) (.loop d a n :: ks) Q env fr h = exM G (.exit i) ks Q env fr h := rfl
@[simp] theorem ex_ret_loop {d : List Nat} {a : MC} {n : Nat} : exM G .ret (.loop d a n :: ks) Q env fr h = exM G .ret ks Q env fr h := rfl

theorem head_step {d : List Nat} {a : MC} {n : Nat} (hq : goM G a (.loop d a n :: ks) Q [] (junkAll d fr) (trunc n (junkAll d fr) h)) : headM G d a n ks Q fr h := loop_step hq

@[simp] theorem reg_nil : regM G s [] ks Q env fr h = exM G .normal ks Q env fr h := rfl
@[simp] theorem reg_cons {i : MI} {is : List MI} : regM G s (i :: is) ks Q env fr h = bindM G s i.dst i.kept is ks Q env fr (stepV G s i (getT env fr) h) := by
  simp only [regM, run, evalI, bindM]
  cases stepV G s i (getT env fr) h with
  | none => simp only [bindR, run_bad, after]
  | some vh =>
    obtain ⟨v, h'⟩ := vh
    simp only [bindR]
    cases i.dst with
    | none => rfl
    | some t => simp only []; split <;> rfl
@[simp] theorem bind_none {is : List MI} {kept : Bool} {v : AV} : bindM G s none kept is ks Q env fr (some (v, h)) = regM G s is ks Q env fr h := rfl
@[simp] theorem bind_env {is : List MI} {t : Nat} {v : AV} : bindM G s (some t) false is ks Q env fr (some (v, h)) = regM G s is ks Q ((t, v) :: env) fr h := rfl
@[simp] theorem bind_fr {is : List MI} {t : Nat} {v : AV} : bindM G s (some t) true is ks Q env fr (some (v, h)) = regM G s is ks Q env (upd t v fr) h := rfl

@[simp] theorem step_op {d : Option Nat} {k : Bool} {o : AO} {args : List At} {e : Nat → Option AV} : stepV G s ⟨none, d, k, o, args⟩ e h = opV G s h o (getAs e args) := by
  simp only [stepV, opV]; split <;> rename_i hx <;> rw [hx]
@[simp] theorem step_guard {d : Option Nat} {k : Bool} {o : AO} {args : List At} {e : Nat → Option AV} {t : Nat} {want : Bool} : stepV G s ⟨some (t, want), d, k, o, args⟩ e h = guardV want h (opV G s h o (getAs e args)) (e t) := by
  simp only [stepV]
  generalize e t = r
  cases r with
  | none => rfl
  | some v => cases v <;> first | rfl | (rename_i b; simp only [guardV, opV]; generalize getAs e args = x; cases x <;> rfl) | (rename_i vs; cases vs <;> rfl)
/-- A truth value that holds, kept closed. -/
def On (b : Bool) : Prop := b = true
instance {b : Bool} : Decidable (On b) := inferInstanceAs (Decidable (b = true))
@[simp] theorem On_true : On true = True := by simp [On]
@[simp] theorem On_false : On false = False := by simp [On]
@[simp] theorem On_not {b : Bool} : On (!b) = ¬ On b := by simp [On]
@[simp] theorem On_decide {p : Prop} [Decidable p] : On (decide p) = p := by simp [On]
@[simp] theorem decide_On {b : Bool} : decide (On b) = b := by cases b <;> rfl
theorem On_iff {b : Bool} : On b ↔ b = true := Iff.rfl
theorem guard_bool {want b : Bool} {r : Option (AV × Heap)} : guardV want h r (some (.bool b)) = if b = want then r else some (skipped, h) := rfl
@[simp] theorem guard_on {b : Bool} {r : Option (AV × Heap)} : guardV true h r (some (.bool b)) = if On b then r else some (skipped, h) := rfl
@[simp] theorem guard_off {b : Bool} {r : Option (AV × Heap)} : guardV false h r (some (.bool b)) = if On b then some (skipped, h) else r := by cases b <;> rfl
@[simp] theorem guard_skip {want : Bool} {r : Option (AV × Heap)} : guardV want h r (some skipped) = some (skipped, h) := rfl

@[simp] theorem getAs_nil {e : Nat → Option AV} : getAs e [] = some [] := rfl
/-- One operand more. -/
def consO : Option AV → Option (List AV) → Option (List AV)
  | some v, some vs => some (v :: vs)
  | _, _ => none
@[simp] theorem getAs_cons {e : Nat → Option AV} {a : At} {as : List At} : getAs e (a :: as) = consO (getA e a) (getAs e as) := by
  simp only [getAs]
  generalize getA e a = x
  generalize getAs e as = y
  cases x <;> cases y <;> rfl
@[simp] theorem consO_some {v : AV} {vs : List AV} : consO (some v) (some vs) = some (v :: vs) := rfl
@[simp] theorem getA_t {e : Nat → Option AV} {n : Nat} : getA e (.t n) = e n := rfl
@[simp] theorem getA_c {e : Nat → Option AV} {v : AV} : getA e (.c v) = some v := rfl
@[simp] theorem getT_hit {t : Nat} {v : AV} : getT ((t, v) :: env) fr t = some v := by simp [getT, lkp]
@[simp] theorem getT_miss {t k : Nat} {v : AV} (hne : t ≠ k) : getT ((k, v) :: env) fr t = getT env fr t := by simp [getT, lkp, hne]
@[simp] theorem getT_nil {t : Nat} : getT [] fr t = lkp t fr := rfl
@[simp] theorem lkp_hit {t : Nat} {v : AV} : lkp t ((t, v) :: fr) = some v := by simp [lkp]
@[simp] theorem lkp_miss {t k : Nat} {v : AV} (hne : t ≠ k) : lkp t ((k, v) :: fr) = lkp t fr := by simp [lkp, hne]
@[simp] theorem upd_hit {t : Nat} {v x : AV} : upd t v ((t, x) :: fr) = (t, v) :: fr := by simp [upd]
@[simp] theorem upd_miss {t k : Nat} {v x : AV} (hne : t ≠ k) : upd t v ((k, x) :: fr) = (k, x) :: upd t v fr := by simp [upd, hne]

/-- An operation that only looks: in whatever order. -/
theorem opV_quiet {o : AO} {vs : List AV} (hq : o.quiet = true) : opV G s h o (some vs) = (evalPure h o vs).map fun v => (v, h) := by
  have hl : o.loud = false := by cases o <;> simp_all [AO.loud, AO.quiet]
  cases s <;> simp only [opV, hl, Bool.not_false, Bool.and_self, Bool.false_and, if_true, Bool.false_eq_true, if_false, evalStill, evalAO, hq, Bool.true_and]
  cases evalPure h o vs <;> rfl
theorem opV_eff {o : AO} {vs : List AV} (hq : o.loud = true) : opV G s h o (some vs) = evalEff G h o vs := by
  have hl : o.quiet = false := by cases o <;> simp_all [AO.loud, AO.quiet]
  simp only [opV, hq, Bool.not_true, Bool.and_false, Bool.false_eq_true, if_false, evalAO, hl]

@[simp] theorem op_mv {x : AV} : opV G s h .mv (some [x]) = some (x, h) := by rw [opV_quiet rfl]; rfl
@[simp] theorem op_pick {c : Bool} {x y : AV} : opV G s h .pick (some [.bool c, x, y]) = some (if On c then x else y, h) := by rw [opV_quiet rfl]; rfl
@[simp] theorem op_strid {x : List UInt8} : opV G s h .strid (some [.str x]) = some (.str x, h) := by rw [opV_quiet rfl]; rfl
@[simp] theorem op_bin {o : BinOp} {x y : AV} : opV G s h (.bin o) (some [x, y]) = (binAV o x y).map fun v => (v, h) := by rw [opV_quiet rfl]; rfl
@[simp] theorem op_eqB {n b c : Bool} : opV G s h (.eqB n) (some [.bool b, .bool c]) = some (.bool (if n then !(b == c) else b == c), h) := by rw [opV_quiet rfl]; rfl
@[simp] theorem op_un {o : UnOp} {x : AV} : opV G s h (.un o) (some [x]) = (unAV o x).map fun v => (v, h) := by rw [opV_quiet rfl]; rfl
@[simp] theorem op_conv {k k' : IntKind} {n : Int} : opV G s h (.conv k) (some [.int k' n]) = some (.int k (k.wrap n), h) := by rw [opV_quiet rfl]; rfl
@[simp] theorem op_fadr_ptr {o l off : Nat} : opV G s h (.fadr o) (some [.ptr l off]) = some (.ptr l (off + o), h) := by rw [opV_quiet rfl]; rfl
@[simp] theorem op_fadr_fptr {o off : Nat} {row : List AV} : opV G s h (.fadr o) (some [.fptr row off]) = some (.fptr row (off + o), h) := by rw [opV_quiet rfl]; rfl
@[simp] theorem op_fadr_eptr {o l v i off : Nat} : opV G s h (.fadr o) (some [.eptr l v i off]) = some (.eptr l v i (off + o), h) := by rw [opV_quiet rfl]; rfl
@[simp] theorem op_fld {o n : Nat} {g : Bool} {cs : List AV} : opV G s h (.fld o n g) (some [.agg cs]) = (mkVal g n (cut cs o n)).map fun v => (v, h) := by rw [opV_quiet rfl]; rfl
@[simp] theorem op_iadr {n : Nat} {x i : AV} : opV G s h (.iadr n) (some [x, i]) = (iadrAV n h x i).map fun v => (v, h) := by rw [opV_quiet rfl]; rfl
@[simp] theorem op_ld {n : Nat} {g : Bool} {x : AV} : opV G s h (.ld n g) (some [x]) = (loadAV n g h x).map fun v => (v, h) := by rw [opV_quiet rfl]; rfl
@[simp] theorem op_len {k : Nat} {x : AV} : opV G s h (.len k) (some [x]) = (lenAV h k x).map fun v => (v, h) := by rw [opV_quiet rfl]; rfl
@[simp] theorem op_ext {i : Nat} {vs : List AV} : opV G s h (.ext i) (some [.tup vs]) = (vs[i]?).map fun v => (v, h) := by rw [opV_quiet rfl]; rfl
@[simp] theorem op_mkfn {f : FuncId} {vs : List AV} : opV G s h (.mkfn f) (some vs) = some (.fn f vs, h) := by rw [opV_quiet rfl]; rfl
@[simp] theorem op_mkif {t : TypeId} {x : AV} : opV G s h (.mkif t) (some [x]) = some (.iface t x, h) := by rw [opV_quiet rfl]; rfl
@[simp] theorem op_bld {z : List AV} {ps : List (Nat × Nat)} {vs : List AV} : opV G s h (.bld z ps) (some vs) = (bldAV z ps vs).map fun v => (.agg v, h) := by rw [opV_quiet rfl]; simp only [evalPure]; cases bldAV z ps vs <;> rfl
@[simp] theorem op_eqA {n : Bool} {kk : List EK} {xs ys : List AV} : opV G s h (.eqA n kk) (some [.agg xs, .agg ys]) = if xs.length = kk.length ∧ ys.length = kk.length then (eqCells kk xs ys).map (fun b => (.bool (if n then !b else b), h)) else none := by
  rw [opV_quiet rfl]; simp only [evalPure]; split
  · cases eqCells kk xs ys <;> rfl
  · rfl
@[simp] theorem op_alloc {z : List AV} : opV G s h (.alloc z) (some []) = some (.ptr h.length 0, h ++ [.cells z]) := by rw [opV_eff rfl]; rfl
@[simp] theorem op_newnil {n : Nat} : opV G s h (.newnil n) (some []) = some (.own h.length 0 0, h ++ [.arr n 0 [] true]) := by rw [opV_eff rfl]; rfl
@[simp] theorem op_mkmap : opV G s h .mkmap (some []) = some (.map h.length, h ++ [.map []]) := by rw [opV_eff rfl]; rfl
@[simp] theorem op_st {n : Nat} {a v : AV} : opV G s h (.st n) (some [a, v]) = (stAV n h a v).map fun h' => (.junk, h') := by rw [opV_eff rfl]; rfl

/-- A call of what keeps to itself. -/
theorem op_call {f : FuncId} {F : List AV → Option AV} {args us : List AV} {r : AV} (hf : G f = some (.pure F)) (hv : viewL h args = some us) (hF : F us = some r) (ho : scalar r = true ∨ ownsL args = []) :
    opV G s h (.call f) (some args) = some (r, h) := by
  have e1 : evalStill G h (.call f) args = some r := by
    simp only [evalStill, AO.quiet, Bool.false_eq_true, if_false, hf, hv, hF]
    rcases ho with ho | ho
    · rw [if_pos ho]
    · split <;> simp [ho]
  have e2 := evalStill_all e1
  cases s
  · simp only [opV, Bool.false_and, Bool.false_eq_true, if_false, e2]
  · simp only [opV, AO.loud, Bool.not_false, Bool.and_self, if_true, e1, Option.map_some]
/-- A call whose result is no plain value, of arguments that are owned. -/
theorem op_call_frz {f : FuncId} {F : List AV → Option AV} {args us : List AV} {r : AV} (hf : G f = some (.pure F)) (hv : viewL h args = some us) (hF : F us = some r) (ho : scalar r = false) :
    opV G false h (.call f) (some args) = some (r, freezeAll h (ownsL args)) := by
  simp only [opV, Bool.false_and, Bool.false_eq_true, if_false, evalAO, AO.quiet, evalEff, callAV, hf, hv, hF, ho]

end
end Go.Proofs.YtmjdgpiofhildaaDoor
