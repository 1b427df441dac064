/- Small laws for proofs over the small language. -/
import Derived.Test.YtmjdgpiofhildaaDoorAbs21
import Derived.IntWalk
namespace Go.Proofs.YtmjdgpiofhildaaDoor
open Go.RowKit
section
variable {G : Gam} {s : Bool} {ks : List MK} {Q : MPost} {env fr : List (Nat × AV)} {h : Heap}

@[simp] theorem ex_ret_all {ks : List MK} : exM G .ret ks Q env fr h = Q .ret env fr h := by
  induction ks with
  | nil => rfl
  | cons k ks ih => cases k <;> simpa using ih

theorem head_go {d : List Nat} {a a' : MC} {n : Nat} (ha : a = a') (hq : goM G a' (.loop d a n :: ks) Q [] (junkAll d fr) (trunc n (junkAll d fr) h)) : headM G d a n ks Q fr h := by
  subst ha; exact head_step hq

theorem junkAll_idem (d : List Nat) : ∀ fr : List (Nat × AV), junkAll d (junkAll d fr) = junkAll d fr
  | [] => rfl
  | (k, v) :: r => by
    simp only [junkAll, junkAll_idem d r]
    by_cases h : k ∈ d <;> simp [h]
theorem trunc_idem (n : Nat) (fr : List (Nat × AV)) (h : Heap) : trunc n fr (trunc n fr h) = trunc n fr h := by
  by_cases hc : (lowFr n fr && lowH n (h.take n)) = true
  · have e : trunc n fr h = h.take n := by simp only [trunc, hc, if_true]
    rw [e]
    simp only [trunc, List.take_take, Nat.min_self, ite_self]
  · have e : trunc n fr h = h := by simp only [trunc, hc]; rfl
    rw [e, e]

/-- At the head of a loop only what is not dead counts. -/
theorem head_of {d : List Nat} {a : MC} {n : Nat} (hq : headM G d a n ks Q (junkAll d fr) (trunc n (junkAll d fr) h)) : headM G d a n ks Q fr h := by
  obtain ⟨N, hr⟩ := hq
  refine ⟨N, ?_⟩
  cases N with
  | zero => exact hr
  | succ N =>
    simp only [roundsM] at hr ⊢
    rw [junkAll_idem, trunc_idem] at hr
    exact hr

/-- An append to what is owned. -/
theorem op_app {n b l ver k : Nat} {x : AV} {new rows : List (List AV)} (hx : rowsOf h x = some new) (hl : h[l]? = some (.arr n ver rows true)) (hk : k = rows.length) (hs : sizesOk n new = true) (hne : new ≠ []) (h1 : (k + new.length) * b ≤ byteMax) (h2 : k + new.length ≤ byteMax) :
    opV G s h (.app false n b) (some [.own l ver k, x]) = some (.own l (ver + new.length) (k + new.length), h.set l (.arr n (ver + new.length) (rows ++ new) true)) := by
  rw [opV_eff rfl]
  simp only [evalEff, appRows, Bool.false_eq_true, if_false, hx, hs, if_true, appAV, hl]
  rw [if_pos ⟨trivial, hk, trivial, trivial⟩, if_neg hne, if_pos ⟨h1, h2⟩]
@[simp] theorem op_bsl {n : Nat} {vs : List AV} {s : Bool} (ho : ownsL vs = []) : opV G s h (.bsl false n) (some vs) = (viewL h vs).bind fun us => if sizesOk n (us.map AV.cells) ∧ onesOk (us.map AV.cells) ∧ 0 < n ∧ us.length * n ≤ 16777216 then some (.tsl (us.map AV.cells), h) else none := by
  cases s
  · simp only [opV, Bool.false_and, Bool.false_eq_true, if_false, evalAO, AO.quiet, evalEff, frzL, ho, freezeAll]
    cases viewL h vs <;> rfl
  · simp only [opV, AO.loud, Bool.not_false, Bool.and_self, if_true, evalStill, AO.quiet, Bool.false_eq_true, if_false, ho]
    cases viewL h vs with
    | none => rfl
    | some us => simp only [Option.bind_some]; split <;> rfl

theorem iadr_sl {size i : Nat} {rows : List (List AV)} {row : List AV} {k : IntKind} (h1 : rows[i]? = some row) (h2 : row.length = size) : iadrAV size h (.sl rows) (.int k i) = some (.fptr row 0) := by
  simp [iadrAV, h1, h2]

@[simp] theorem load_fptr {size off : Nat} {agg : Bool} {row : List AV} : loadAV size agg h (.fptr row off) = mkVal agg size (cut row off size) := rfl
@[simp] theorem mkVal_one' {size : Nat} {v : AV} : mkVal false size [v] = some v := rfl

end
end Go.Proofs.YtmjdgpiofhildaaDoor
