/- Control: a function's code, resolved, and what it does. -/
import Derived.Test.YtmjdgpiofhildaaDoorAbs17
import Derived.LoopN
import Derived.Tactics
namespace Go.Proofs.YtmjdgpiofhildaaDoor
open Go.RowKit

/-- A function's code, resolved. -/
inductive MC where
  | skip
  | reg (is : List MI)
  | rgd (is : List MI)
  | seq (a b : MC)
  | ite (c : At) (a b : MC)
  | blk (id : Nat) (a : MC)
  | loop (dead : List Nat) (a : MC)
  | exit (id : Nat)
  | ret
  | bad
  deriving Inhabited

inductive MX where
  | normal
  | exit (id : Nat)
  | ret

abbrev MPost := MX → List (Nat × AV) → List (Nat × AV) → Heap → Prop

/-! ### The head of a loop: what is dead goes -/
def junkAll (dead : List Nat) : List (Nat × AV) → List (Nat × AV)
  | [] => []
  | (k, v) :: r => (k, if dead.contains k then .junk else v) :: junkAll dead r

mutual
def low (n : Nat) : AV → Bool
  | .own l _ _ => decide (l < n)
  | .ptr l _ => decide (l < n)
  | .eptr l _ _ _ => decide (l < n)
  | .map l => decide (l < n)
  | .agg cs => lowL n cs
  | .tup cs => lowL n cs
  | .fn _ cs => lowL n cs
  | .iface _ v => low n v
  | _ => true
def lowL (n : Nat) : List AV → Bool
  | [] => true
  | a :: as => low n a && lowL n as
end

def lowFr (n : Nat) : List (Nat × AV) → Bool
  | [] => true
  | (_, v) :: r => low n v && lowFr n r

def lowB (n : Nat) : Blk → Bool
  | .cells vs => lowL n vs
  | _ => true

def lowH (n : Nat) : Heap → Bool
  | [] => true
  | b :: r => lowB n b && lowH n r

def trunc (n : Nat) (fr : List (Nat × AV)) (h : Heap) : Heap := if lowFr n fr && lowH n (h.take n) then h.take n else h

def seqQ (k : MPost) (Q : MPost) : MPost
  | .normal, env, fr, h => k .normal env fr h
  | x, env, fr, h => Q x env fr h

def blkQ (id : Nat) (Q : MPost) : MPost
  | .exit j, env, fr, h => if j = id then Q .normal env fr h else Q (.exit j) env fr h
  | x, env, fr, h => Q x env fr h

def roundsM (T : MPost → List (Nat × AV) → List (Nat × AV) → Heap → Prop) (dead : List Nat) (n : Nat) (Q : MPost) : Nat → List (Nat × AV) → List (Nat × AV) → Heap → Prop
  | 0, _, _, _ => False
  | N + 1, _, fr, h => T (seqQ (fun _ env fr h => roundsM T dead n Q N env fr h) Q) [] (junkAll dead fr) (trunc n (junkAll dead fr) h)

def wpM (G : Gam) : MC → MPost → List (Nat × AV) → List (Nat × AV) → Heap → Prop
  | .skip, Q, env, fr, h => Q .normal env fr h
  | .reg is, Q, _, fr, h => match run G false is (.ok [] fr h) with
    | .ok env' fr' h' => Q .normal env' fr' h'
    | .bad => False
  | .rgd is, Q, _, fr, h => match run G true is (.ok [] fr h) with
    | .ok env' fr' h' => Q .normal env' fr' h'
    | .bad => False
  | .seq a b, Q, env, fr, h => wpM G a (seqQ (fun _ env fr h => wpM G b Q env fr h) Q) env fr h
  | .ite c a b, Q, env, fr, h => match getA (getT env fr) c with
    | some (.bool t) => if t then wpM G a Q env fr h else wpM G b Q env fr h
    | _ => False
  | .blk id a, Q, env, fr, h => wpM G a (blkQ id Q) env fr h
  | .loop dead a, Q, env, fr, h => ∃ N, roundsM (wpM G a) dead h.length Q N env fr h
  | .exit id, Q, env, fr, h => Q (.exit id) env fr h
  | .ret, Q, env, fr, h => Q .ret env fr h
  | .bad, _, _, _, _ => False

/-- Code, resolved; dl: what is dead at the loops' heads, in the order of the text. -/
def compC (P : Program) (gv : Nat → Option (List AV)) (ks : List Nat) (n : Nat) (ow : List Nat) : Code → List (List Nat) → MC × List (List Nat)
  | .skip, dl => (.skip, dl)
  | .region _ ops draw, dl =>
    if draw then (if drawOK ops.toList (compReg P gv ks n ow ops) then (.rgd (compReg P gv ks n ow ops), dl) else (.bad, dl))
    else (.reg (compReg P gv ks n ow ops), dl)
  | .seq a b, dl => let (x, dl) := compC P gv ks n ow a dl; let (y, dl) := compC P gv ks n ow b dl; (.seq x y, dl)
  | .cond c a b, dl => match compAt gv c with
    | some c' => let (x, dl) := compC P gv ks n ow a dl; let (y, dl) := compC P gv ks n ow b dl; (.ite c' x y, dl)
    | none => (.bad, dl)
  | .block id a, dl => let (x, dl) := compC P gv ks n ow a dl; (.blk id x, dl)
  | .loop a, dl => let (x, dl') := compC P gv ks n ow a dl.tail; (.loop (dl.headD []) x, dl')
  | .exit id, dl => (.exit id, dl)
  | .ret, dl => (.ret, dl)
  | .label _, dl => (.skip, dl)
  | _, dl => (.bad, dl)

section
variable {P : Program} {B : Base} {C D : Cx} {h : Heap} {w w' : World} {G : Gam} {a : Act}

/-! ### Truncation -/
def Cx.cut (C : Cx) (n : Nat) : Cx := ⟨C.im, fun l => if l < n then C.bl l else none, fun l v => if l < n then C.ar l v else none⟩

theorem cut_le (C : Cx) (n : Nat) : (C.cut n).Le C := by
  refine ⟨fun _ _ _ h => h, fun l b h => ?_, fun l v r h => ?_⟩
  · simp only [Cx.cut] at h; split at h
    · exact h
    · cases h
  · simp only [Cx.cut] at h; split at h
    · exact h
    · cases h

theorem le_cut {C0 : Cx} {n : Nat} (h : C0.Le C) (hl : ∀ l, n ≤ l → C0.bl l = none ∧ ∀ v, C0.ar l v = none) : C0.Le (C.cut n) := by
  refine ⟨h.im, fun l b x => ?_, fun l v r x => ?_⟩
  · have : l < n := by
      rcases Nat.lt_or_ge l n with h1 | h1
      · exact h1
      · rw [(hl l h1).1] at x; cases x
    simp only [Cx.cut, if_pos this]; exact h.bl l b x
  · have : l < n := by
      rcases Nat.lt_or_ge l n with h1 | h1
      · exact h1
      · rw [(hl l h1).2 v] at x; cases x
    simp only [Cx.cut, if_pos this]; exact h.ar l v r x

mutual
theorem low_rel {n : Nat} : ∀ {v : AV} {u : Value}, low n v = true → Rel C v u → Rel (C.cut n) v u
  | .own l ver k, u, hl, hr => by
    simp only [low, decide_eq_true_eq] at hl
    generalize hk : k = k' at hr
    cases hr with
    | ownnil _ _ h => exact .ownnil _ _ (by simp only [Cx.cut, if_pos hl]; exact h)
    | own _ _ _ r h hn => exact .own _ _ _ r (by simp only [Cx.cut, if_pos hl]; exact h) hn
  | .ptr l off, u, hl, hr => by
    simp only [low, decide_eq_true_eq] at hl
    cases hr with
    | ptr _ _ b h => exact .ptr _ _ b (by simp only [Cx.cut, if_pos hl]; exact h)
  | .eptr l ver i off, u, hl, hr => by
    simp only [low, decide_eq_true_eq] at hl
    cases hr with
    | eptr _ _ _ _ r h => exact .eptr _ _ _ _ r (by simp only [Cx.cut, if_pos hl]; exact h)
  | .map l, u, hl, hr => by
    simp only [low, decide_eq_true_eq] at hl
    cases hr with
    | map _ b h => exact .map _ b (by simp only [Cx.cut, if_pos hl]; exact h)
  | .agg cs, u, hl, hr => by
    simp only [low] at hl
    cases hr with
    | agg _ vs hs h => exact .agg _ vs hs (fun i c v hc hv => (low_relL (us := vs.toList) hl ⟨by simpa using hs, fun i c v hc hv => h i c v hc (by simpa using hv)⟩).2 i c v hc (by simpa using hv))
  | .tup cs, u, hl, hr => by
    simp only [low] at hl
    cases hr with
    | tup _ vs hs h => exact .tup _ vs hs (fun i c v hc hv => (low_relL (us := vs.toList) hl ⟨by simpa using hs, fun i c v hc hv => h i c v hc (by simpa using hv)⟩).2 i c v hc (by simpa using hv))
  | .fn f cs, u, hl, hr => by
    simp only [low] at hl
    cases hr with
    | fn _ _ vs hs h => exact .fn _ _ vs hs (fun i c v hc hv => (low_relL (us := vs.toList) hl ⟨by simpa using hs, fun i c v hc hv => h i c v hc (by simpa using hv)⟩).2 i c v hc (by simpa using hv))
  | .iface t v, u, hl, hr => by
    simp only [low] at hl
    cases hr with
    | iface _ _ x h => exact .iface _ _ x (low_rel hl h)
  | .bool b, u, _, hr => by rw [bool_inv hr]; exact .bool b
  | .int k m, u, _, hr => by rw [int_inv hr]; exact .int k m
  | .str s, u, _, hr => by rw [str_inv hr]; exact .str s
  | .sl rows, u, _, hr => by
    cases hr with
    | slnil => exact .slnil
    | slz a cap => exact .slz a cap
    | sl _ b o cap size us h1 h2 h3 h4 => exact .sl _ b o cap size us h1 h2 h3 h4
  | .tsl rows, u, _, hr => by
    cases hr with
    | tslnil => exact .tslnil
    | tslz a => exact .tslz a
    | tsl _ b o size us h2 h3 h4 => exact .tsl _ b o size us h2 h3 h4
  | .nils, u, _, hr => by cases hr; exact .nils
  | .fptr row off, u, _, hr => by
    cases hr with
    | fptr _ _ b o us h1 h2 => exact .fptr _ _ b o us h1 h2
  | .gptr g off, u, _, hr => by cases hr; exact .gptr g off
  | .nilp, u, _, hr => by cases hr; exact .nilp
  | .nilm, u, _, hr => by cases hr; exact .nilm
  | .nilf, u, _, hr => by cases hr; exact .nilf
  | .nili, u, _, hr => by cases hr; exact .nili
  | .junk, u, _, hr => .junk u
theorem low_relL {n : Nat} : ∀ {vs : List AV} {us : List Value}, lowL n vs = true → RelL C vs us → RelL (C.cut n) vs us
  | [], us, _, h => by rw [h.inv_nil]; exact .nil
  | a :: as, us, hl, h => by
    obtain ⟨u, us', rfl, h1, h2⟩ := h.inv_cons
    simp only [lowL, Bool.and_eq_true] at hl
    exact .cons (low_rel hl.1 h1) (low_relL hl.2 h2)
end

theorem lowFr_get {n : Nat} : ∀ {fr : List (Nat × AV)} {t : Nat} {x : AV}, lowFr n fr = true → lkp t fr = some x → low n x = true
  | [], _, _, _, h => by simp [lkp] at h
  | (k, v) :: r, t, x, hl, h => by
    simp only [lowFr, Bool.and_eq_true] at hl
    simp only [lkp] at h
    split at h
    · injection h with h; subst h; exact hl.1
    · exact lowFr_get hl.2 h

theorem lowH_get {n : Nat} : ∀ {h : Heap} {l : Nat} {b : Blk}, lowH n h = true → h[l]? = some b → lowB n b = true
  | [], _, _, _, h => by simp at h
  | x :: r, l, b, hl, h => by
    simp only [lowH, Bool.and_eq_true] at hl
    cases l with
    | zero => simp at h; subst h; exact hl.1
    | succ l => exact lowH_get hl.2 (by simpa using h)

theorem trunc_inv (hi : Inv B C h w) {n : Nat} (hl : lowH n (h.take n) = true) : Inv B (C.cut n) (h.take n) w := by
  have get : ∀ (l : Nat) blk, (h.take n)[l]? = some blk → l < n ∧ h[l]? = some blk := fun l blk hb => by
    rw [List.getElem?_take] at hb
    split at hb
    · exact ⟨‹_›, hb⟩
    · cases hb
  have bo : ∀ (l : Nat) blk, l < n → blockOf (C.cut n) l blk = blockOf C l blk := fun l blk hln => by cases blk <;> simp [blockOf, Cx.cut, hln]
  refine ⟨hi.im, hi.one, fun l blk hb => ?_, fun l l' blk blk' b h1 h2 h3 h4 => ?_, fun l hll => ?_, fun l sz ver rows wr hb v hv => ?_, hi.hB, hi.low, hi.gl⟩
  · obtain ⟨hln, hb'⟩ := get l blk hb
    have k := hi.ok l blk hb'
    have hlow := lowH_get hl hb
    cases blk with
    | cells vs =>
      obtain ⟨b, cur, e, h1, h2, h3, h4, h5⟩ := k
      exact ⟨b, cur, e, by simp only [Cx.cut, if_pos hln]; exact h1, h2, h3, h4, low_relL hlow h5⟩
    | arr sz ver rows wr =>
      rcases k with ⟨k1, k2⟩ | ⟨r, cur, k1, k2⟩
      · exact .inl ⟨by simp only [Cx.cut, if_pos hln]; exact k1, k2⟩
      · exact .inr ⟨r, cur, by simp only [Cx.cut, if_pos hln]; exact k1, k2⟩
    | map es =>
      obtain ⟨b, ms, ck, h1, h2⟩ := k
      exact ⟨b, ms, ck, by simp only [Cx.cut, if_pos hln]; exact h1, h2⟩
    | iter s pos =>
      obtain ⟨b, h1, h2⟩ := k
      exact ⟨b, by simp only [Cx.cut, if_pos hln]; exact h1, h2⟩
    | dead => trivial
  · obtain ⟨hl1, hb1⟩ := get l blk h1
    obtain ⟨hl2, hb2⟩ := get l' blk' h2
    rw [bo l blk hl1] at h3
    rw [bo l' blk' hl2] at h4
    exact hi.inj l l' blk blk' b hb1 hb2 h3 h4
  · by_cases hln : l < n
    · have : h.length ≤ l := by simp at hll; omega
      have := hi.fr l this
      exact ⟨by simp only [Cx.cut, if_pos hln]; exact this.1, fun v => by simp only [Cx.cut, if_pos hln]; exact this.2 v⟩
    · exact ⟨by simp only [Cx.cut, if_neg hln], fun v => by simp only [Cx.cut, if_neg hln]⟩
  · obtain ⟨hln, hb'⟩ := get l _ hb
    simp only [Cx.cut, if_pos hln]
    exact hi.fv l sz ver rows wr hb' v hv

theorem lkp_junkAll (dead : List Nat) (t : Nat) : ∀ (fr : List (Nat × AV)), lkp t (junkAll dead fr) = (lkp t fr).map fun v => if dead.contains t then .junk else v
  | [] => rfl
  | (k, v) :: r => by
    simp only [junkAll, lkp]
    by_cases h : t = k
    · subst h; simp
    · simp only [if_neg h]; exact lkp_junkAll dead t r

theorem StOK.clear {ks : List Nat} {n : Nat} {env fr : List (Nat × AV)} (hst : StOK ks n B C env fr h a w) : StOK ks n B C [] fr h a w :=
  ⟨hst.inv, fun t x hx => hst.rel t x (by
    have hx' : lkp t fr = some x := hx
    have hk := hst.keys t x hx'
    have : lkp t env = none := by
      cases hl : lkp t env with
      | none => rfl
      | some y => have := hst.sep t y hl; rw [hk] at this; cases this
    simp only [getT, this]; exact hx'), fun t v hx => by simp [lkp] at hx, hst.keys, hst.size⟩

theorem StOK.head {ks : List Nat} {n m : Nat} {env fr : List (Nat × AV)} {C0 : Cx} (hst : StOK ks n B C env fr h a w) (hle : C0.Le C) (hl : ∀ l, m ≤ l → C0.bl l = none ∧ ∀ v, C0.ar l v = none) (dead : List Nat) :
    ∃ D, C0.Le D ∧ StOK ks n B D [] (junkAll dead fr) (trunc m (junkAll dead fr) h) a w := by
  have h1 := hst.clear
  have h2 : StOK ks n B C [] (junkAll dead fr) h a w := ⟨h1.inv, fun t x hx => by
    have hx' : lkp t (junkAll dead fr) = some x := hx
    rw [lkp_junkAll] at hx'
    simp only [Option.map_eq_some_iff] at hx'
    obtain ⟨y, hy, rfl⟩ := hx'
    obtain ⟨u, k1, k2⟩ := h1.rel t y hy
    refine ⟨u, k1, ?_⟩
    split
    · exact .junk u
    · exact k2, fun t v hx => by simp [lkp] at hx, fun t v hx => by
    rw [lkp_junkAll] at hx
    simp only [Option.map_eq_some_iff] at hx
    obtain ⟨y, hy, _⟩ := hx
    exact hst.keys t y hy, h1.size⟩
  unfold trunc
  split
  · rename_i hc
    simp only [Bool.and_eq_true] at hc
    refine ⟨C.cut m, le_cut hle hl, ⟨trunc_inv h2.inv hc.2, fun t x hx => ?_, h2.sep, h2.keys, h2.size⟩⟩
    obtain ⟨u, k1, k2⟩ := h2.rel t x hx
    exact ⟨u, k1, low_rel (lowFr_get hc.1 hx) k2⟩
  · exact ⟨C, hle, h2⟩

def MX.is : MX → Exit → Prop
  | .normal, .normal => True
  | .exit i, .exit j => i = j
  | .ret, .ret => True
  | _, _ => False

/-- What stands behind. -/
def Post (ks : List Nat) (n : Nat) (B : Base) (C0 : Cx) (w0 : World) (d : List Deferred) (Q : MPost) (e : Exit) (a : Act) (w : World) : Prop :=
  ∃ x env fr h C, MX.is x e ∧ Q x env fr h ∧ StOK ks n B C env fr h a w ∧ C0.Le C ∧ Below B w0 w ∧ a.defers = d

theorem wpM_sound (hm : P.follows .mixedOrders = true) (hG : GamOK P B.gv G) {ks ow : List Nat} {n : Nat} {C0 : Cx} {w0 : World} {d : List Deferred} :
    ∀ (c : Code) (dl : List (List Nat)) (Q : MPost) (env fr : List (Nat × AV)) (h : Heap) (C : Cx) (a : Act) (w : World), StOK ks n B C env fr h a w → C0.Le C → Below B w0 w → a.defers = d →
      wpM G (compC P B.gv ks n ow c dl).1 Q env fr h → c.wp P (Post ks n B C0 w0 d Q) a w
  | .skip, dl, Q, env, fr, h, C, a, w, hst, hle, hbw, hd, hq => wp_skip ⟨.normal, env, fr, h, C, trivial, hq, hst, hle, hbw, hd⟩
  | .region id ops draw, dl, Q, env, fr, h, C, a, w, hst, hle, hbw, hd, hq => by
    simp only [compC] at hq
    cases draw with
    | false =>
      simp only [Bool.false_eq_true, if_false, wpM] at hq
      split at hq
      · rename_i env' fr' h' hrun
        exact region_sound hG hst.clear hrun fun D a' w' k1 k2 k3 k4 => ⟨.normal, env', fr', h', D, trivial, hq, k2, hle.trans k1, hbw.trans k4, k3.trans hd⟩
      · exact hq.elim
    | true =>
      simp only [if_true] at hq
      split at hq
      · rename_i hok
        simp only [wpM] at hq
        split at hq
        · rename_i env' fr' h' hrun
          exact region_sound_draw hm hG hst.clear hok hrun fun D a' w' k1 k2 k3 k4 => ⟨.normal, env', fr', h', D, trivial, hq, k2, hle.trans k1, hbw.trans k4, k3.trans hd⟩
        · exact hq.elim
      · exact hq.elim
  | .seq x y, dl, Q, env, fr, h, C, a, w, hst, hle, hbw, hd, hq => by
    simp only [compC, wpM] at hq
    refine wp_seq (wp_mono (wpM_sound hm hG x dl _ env fr h C a w hst hle hbw hd hq) fun e a' w' hp => ?_)
    obtain ⟨x', env', fr', h', C', k1, k2, k3, k4, k5, k6⟩ := hp
    cases x' <;> cases e <;> simp only [MX.is] at k1 <;> (try exact k1.elim)
    · exact wpM_sound hm hG y _ Q env' fr' h' C' a' w' k3 k4 k5 k6 k2
    · exact ⟨.exit _, env', fr', h', C', k1, k2, k3, k4, k5, k6⟩
    · exact ⟨.ret, env', fr', h', C', trivial, k2, k3, k4, k5, k6⟩
  | .cond c x y, dl, Q, env, fr, h, C, a, w, hst, hle, hbw, hd, hq => by
    simp only [compC] at hq
    split at hq
    · rename_i c' hc
      simp only [wpM] at hq
      split at hq
      · rename_i t ht
        have hr := eval_at_rel hst.inv hst.rel hc ht
        have := bool_inv hr
        cases t with
        | true => simp only [if_true] at hq; exact wp_cond_true this (wpM_sound hm hG x dl Q env fr h C a w hst hle hbw hd hq)
        | false => simp only [Bool.false_eq_true, if_false] at hq; exact wp_cond_false this (wpM_sound hm hG y _ Q env fr h C a w hst hle hbw hd hq)
      · exact hq.elim
    · exact hq.elim
  | .block id x, dl, Q, env, fr, h, C, a, w, hst, hle, hbw, hd, hq => by
    simp only [compC, wpM] at hq
    refine wp_block (wp_mono (wpM_sound hm hG x dl _ env fr h C a w hst hle hbw hd hq) fun e a' w' hp => ?_)
    obtain ⟨x', env', fr', h', C', k1, k2, k3, k4, k5, k6⟩ := hp
    cases x' <;> cases e <;> simp only [MX.is] at k1 <;> (try exact k1.elim)
    · exact ⟨.normal, env', fr', h', C', trivial, k2, k3, k4, k5, k6⟩
    · subst k1
      simp only [blkQ] at k2
      simp only [Exit.inBlock]
      split
      · rename_i e; rw [if_pos e] at k2; exact ⟨.normal, env', fr', h', C', trivial, k2, k3, k4, k5, k6⟩
      · rename_i e; rw [if_neg e] at k2; exact ⟨.exit _, env', fr', h', C', rfl, k2, k3, k4, k5, k6⟩
    · exact ⟨.ret, env', fr', h', C', trivial, k2, k3, k4, k5, k6⟩
  | .loop x, dl, Q, env, fr, h, C, a, w, hst, hle, hbw, hd, hq => by
    simp only [compC, wpM] at hq
    obtain ⟨N, hr⟩ := hq
    refine wp_loop_rounds N ?_
    have hlow : ∀ l, h.length ≤ l → C0.bl l = none ∧ ∀ v, C0.ar l v = none := fun l hl => by
      have hf := hst.inv.fr l hl
      refine ⟨?_, fun v => ?_⟩
      · cases hb : C0.bl l with
        | none => rfl
        | some b => have := hle.bl l b hb; rw [hf.1] at this; cases this
      · cases hb : C0.ar l v with
        | none => rfl
        | some b => have := hle.ar l v b hb; rw [hf.2 v] at this; cases this
    generalize h.length = m at hr hlow
    have key : ∀ (N : Nat) (env fr : List (Nat × AV)) (h : Heap) (C : Cx) (a : Act) (w : World), StOK ks n B C env fr h a w → C0.Le C → Below B w0 w → a.defers = d →
        roundsM (wpM G (compC P B.gv ks n ow x dl.tail).1) (dl.headD []) m Q N env fr h → Code.rounds P x (Post ks n B C0 w0 d Q) N a w := by
      intro N
      induction N with
      | zero => intro env fr h C a w _ _ _ _ hr; exact hr
      | succ N ih =>
        intro env fr h C a w hst hle hbw hd hr
        obtain ⟨D, d1, d2⟩ := hst.head hle hlow (dl.headD [])
        simp only [roundsM] at hr
        refine wp_mono (wpM_sound hm hG x dl.tail _ _ _ _ D a w d2 d1 hbw hd hr) fun e a' w' hp => ?_
        obtain ⟨x', env', fr', h', C', k1, k2, k3, k4, k5, k6⟩ := hp
        cases x' <;> cases e <;> simp only [MX.is] at k1 <;> (try exact k1.elim)
        · exact ih env' fr' h' C' a' w' k3 k4 k5 k6 k2
        · exact ⟨.exit _, env', fr', h', C', k1, k2, k3, k4, k5, k6⟩
        · exact ⟨.ret, env', fr', h', C', trivial, k2, k3, k4, k5, k6⟩
    exact key N env fr h C a w hst hle hbw hd hr
  | .exit id, dl, Q, env, fr, h, C, a, w, hst, hle, hbw, hd, hq => wp_exit ⟨.exit id, env, fr, h, C, rfl, hq, hst, hle, hbw, hd⟩
  | .ret, dl, Q, env, fr, h, C, a, w, hst, hle, hbw, hd, hq => wp_ret ⟨.ret, env, fr, h, C, trivial, hq, hst, hle, hbw, hd⟩
  | .label l, dl, Q, env, fr, h, C, a, w, hst, hle, hbw, hd, hq => wp_label ⟨.normal, env, fr, h, C, trivial, hq, hst, hle, hbw, hd⟩
  | .rangeFunc _ _ _ _, dl, Q, env, fr, h, C, a, w, hst, hle, hbw, hd, hq => hq.elim
  | .scope _, dl, Q, env, fr, h, C, a, w, hst, hle, hbw, hd, hq => hq.elim
  | .goto _, dl, Q, env, fr, h, C, a, w, hst, hle, hbw, hd, hq => hq.elim
  | .refuse _, dl, Q, env, fr, h, C, a, w, hst, hle, hbw, hd, hq => hq.elim

end
end Go.Proofs.YtmjdgpiofhildaaDoor
