/- Equal steps; where two records part. -/
import Derived.Test.YtmjdgpiofhildaaDoorRecTypes
namespace Go.Proofs.YtmjdgpiofhildaaDoor
open Go.RowKit Go.IntWalk

def F_equal : List AV → Option AV
  | [.agg a, .agg b] => match decDone a, decDone b with
    | some x, some y => if x.reads.length ≤ big then some (.bool (decide (x = y))) else none
    | _, _ => none
  | _ => none

attribute [local congr] ite_congr in
theorem equal_ok (G : Gam) (hG : G Fn.slices_Equal___api_Touch_api_Touch_ = some (.pure F_EqualT)) (args : List AV) (r : AV) (h : F_equal args = some r) : wpM G Mc.record_equal (pureQ Rs.record_equal r) [] (frInit Ks.record_equal args) [] := by
  unfold F_equal at h
  split at h
  · rename_i a b
    split at h
    · rename_i x y h1 h2
      have := decDone_of h1; subst this
      have := decDone_of h2; subst this
      split at h
      · rename_i hb
        injection h with h
        rw [wpM_go]
        have hc : ∀ s2 h, opV G s2 h (.call Fn.slices_Equal___api_Touch_api_Touch_) (some [.sl (touchRows x.reads), .sl (touchRows y.reads)]) = some (.bool (decide (x.reads = y.reads)), h) := fun s2 h => op_call hG rfl (by simp [F_EqualT, hb]) (.inl rfl)
        obtain ⟨p, l, k, rs, wt⟩ := x
        obtain ⟨p', l', k', rs', wt'⟩ := y
        subst h
        have hd : decide (Done.mk p l k rs wt = Done.mk p' l' k' rs' wt') = (eqB p p' && eqB l l' && eqB k k' && decide (wt = wt') && decide (rs = rs')) := by
          simp only [Done.mk.injEq, eqB, Bool.decide_and, Bool.and_assoc]
          cases decide (p = p') <;> cases decide (l = l') <;> cases decide (k = k') <;> cases decide (wt = wt') <;> cases decide (rs = rs') <;> rfl
        rw [hd]
        simp +contextual [Mc.record_equal, frInit, Ks.record_equal, Done.row, cut, mkVal, eqT, hc, Rs.record_equal]
      · cases h
    · cases h
  · cases h

theorem refEqual_loop (G : Gam) (r : AV) (x y : Done) (hl : x.reads.length = y.reads.length) (hb : x.reads.length ≤ big) : ∀ (rest : List Touch) (i : Nat), x.reads.drop i = rest → i + rest.length = x.reads.length → r = .bool (decide (rest = y.reads.drop i)) →
    headM G [] Mc.licitref17_Equal_L0 2 [.blk 0, .seq (.seq (.reg [⟨none, some 4, true, .mv, [.c (.bool true)]⟩]) .ret)] (pureQ Rs.licitref17_Equal r)
    [(0, .agg x.row), (1, .agg y.row), (2, .ptr 0 0), (3, .ptr 1 0), (4, .bool false), (5, .int .i64 i)] [.cells x.row, .cells y.row]
  | [], i, hd, hn, hr => by
    refine head_go (Mc.licitref17_Equal_L0.eq_1) ?_
    simp at hn
    have : y.reads.drop i = [] := by rw [List.drop_eq_nil_iff]; omega
    rw [this] at hr
    simp at hr
    subst hr
    simp [junkAll, trunc, lowFr, low, lowL, lowH, lowB, Done.row, loadAV, cut, mkVal, lenAV, binAV, intBin, ltB, eqB, hn, pureQ, Rs.licitref17_Equal, resAV, resL, resOne, view]
  | t :: rest, i, hd, hn, hr => by
    refine head_go (Mc.licitref17_Equal_L0.eq_1) ?_
    simp at hn
    have hi : (i : Int) < x.reads.length := by omega
    have hx : x.reads[i]? = some t := by have := congrArg (·[0]?) hd; simpa using this
    have hyl : i < y.reads.length := by omega
    obtain ⟨u, hy, hyd⟩ := drop_head hyl
    have hxd : x.reads.drop (i + 1) = rest := by rw [← List.drop_drop, hd]; rfl
    have hw : IntKind.i64.wrap ((i : Int) + 1) = ((i + 1 : Nat) : Int) := by unfold big at hb; rw [i64_in _ (by omega)]; rfl
    simp [junkAll, trunc, lowFr, low, lowL, lowH, lowB, Done.row, loadAV, cut, mkVal, lenAV, binAV, intBin, ltB, eqB, hi, iadr_sl (touchRows_get hx), iadr_sl (touchRows_get hy), eqT]
    by_cases he : t = u
    · simp [he, binAV, intBin, ltB, eqB, hw]
      have ih := refEqual_loop G r x y hl hb rest (i + 1) hxd (by omega) (by rw [hr]; congr 2; rw [hyd, he]; simp)
      refine head_of ?_
      simpa [junkAll, trunc, lowFr, low, lowL, lowH, lowB, Done.row] using ih
    · rw [hyd] at hr
      simp [he] at hr
      subst hr
      simp [he, pureQ, Rs.licitref17_Equal, resAV, resL, resOne, view]

theorem refEqual_ok (G : Gam) (args : List AV) (r : AV) (h : F_equal args = some r) : wpM G Mc.licitref17_Equal (pureQ Rs.licitref17_Equal r) [] (frInit Ks.licitref17_Equal args) [] := by
  unfold F_equal at h
  split at h
  · rename_i a b
    split at h
    · rename_i x y h1 h2
      have := decDone_of h1; subst this
      have := decDone_of h2; subst this
      split at h
      · rename_i hb
        injection h with h
        rw [wpM_go]
        have hloop := refEqual_loop G r x y
        obtain ⟨p, l, k, rs, wt⟩ := x
        obtain ⟨p', l', k', rs', wt'⟩ := y
        have hd : decide (Done.mk p l k rs wt = Done.mk p' l' k' rs' wt') = (eqB p p' && eqB l l' && eqB k k' && decide (wt = wt') && decide (rs = rs')) := by
          simp only [Done.mk.injEq, eqB, Bool.decide_and, Bool.and_assoc]
          cases decide (p = p') <;> cases decide (l = l') <;> cases decide (k = k') <;> cases decide (wt = wt') <;> cases decide (rs = rs') <;> rfl
        rw [hd] at h
        have hlen : rs.length ≠ rs'.length → decide (rs = rs') = false := fun e => by simp; intro e2; exact e (by rw [e2])
        cases e1 : eqB p p' with
        | false => subst h; simp [Mc.licitref17_Equal, frInit, Ks.licitref17_Equal, Done.row, cut, mkVal, eqT, e1, Rs.licitref17_Equal]
        | true =>
          cases e2 : eqB l l' with
          | false => subst h; simp [Mc.licitref17_Equal, frInit, Ks.licitref17_Equal, Done.row, cut, mkVal, eqT, e1, e2, Rs.licitref17_Equal]
          | true =>
            cases e3 : eqB k k' with
            | false => subst h; simp [Mc.licitref17_Equal, frInit, Ks.licitref17_Equal, Done.row, cut, mkVal, eqT, e1, e2, e3, Rs.licitref17_Equal]
            | true =>
              by_cases e4 : wt = wt'
              · cases e5 : eqB rs.length rs'.length with
                | false => subst h; simp [Mc.licitref17_Equal, frInit, Ks.licitref17_Equal, Done.row, cut, mkVal, eqT, e1, e2, e3, e4, e5, hlen (fun e => by rw [e] at e5; simp at e5), Rs.licitref17_Equal]
                | true =>
                  have e6 : rs.length = rs'.length := by have := eqB_iff.1 e5; omega
                  have p1 := eqB_iff.1 e1; have p2 := eqB_iff.1 e2; have p3 := eqB_iff.1 e3
                  subst p1 p2 p3 e4
                  have ih := hloop e6 hb rs 0 rfl (by simp) (by rw [← h]; simp)
                  simpa [Mc.licitref17_Equal, frInit, Ks.licitref17_Equal, Done.row, cut, mkVal, eqT, e5] using ih
              · subst h; simp [Mc.licitref17_Equal, frInit, Ks.licitref17_Equal, Done.row, cut, mkVal, eqT, e1, e2, e3, e4, Rs.licitref17_Equal]
      · cases h
    · cases h
  · cases h

end Go.Proofs.YtmjdgpiofhildaaDoor
