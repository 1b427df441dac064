/- Functions that look at the heap that they are handed, and leave it as it is. -/
import Derived.Test.YtmjdgpiofhildaaDoorAbs22
namespace Go.Proofs.YtmjdgpiofhildaaDoor
open Go.RowKit

theorem rel_back {C D : Cx} (hle : C.Le D) {a : AV} {u u' : Value} (h : Rel C a u) (h' : Rel D a u') : Rel ⟨D.im, C.bl, C.ar⟩ a u' := by
  induction h generalizing u' with
  | bool b => rw [bool_inv h']; exact .bool b
  | int k n => rw [int_inv h']; exact .int k n
  | str s => rw [str_inv h']; exact .str s
  | agg cs vs hs hh ih =>
    cases h' with
    | agg _ vs' hs' hh' =>
      exact .agg _ _ hs' fun i c v' hc hv' => by
        have hi : i < vs.size := by rw [← hs]; exact (List.getElem?_eq_some_iff.1 hc).1
        exact ih i c vs[i] hc (by simp [hi]) hle (hh' i c v' hc hv')
  | tup cs vs hs hh ih =>
    cases h' with
    | tup _ vs' hs' hh' =>
      exact .tup _ _ hs' fun i c v' hc hv' => by
        have hi : i < vs.size := by rw [← hs]; exact (List.getElem?_eq_some_iff.1 hc).1
        exact ih i c vs[i] hc (by simp [hi]) hle (hh' i c v' hc hv')
  | slnil =>
    cases h' with
    | slnil => exact .slnil
    | slz a cap => exact .slz a cap
    | sl _ b o cap size us h1 h2 h3 h4 => exact .sl _ b o cap size us h1 h2 h3 h4
  | slz a cap =>
    cases h' with
    | slnil => exact .slnil
    | slz a cap => exact .slz a cap
    | sl _ b o cap size us h1 h2 h3 h4 => exact .sl _ b o cap size us h1 h2 h3 h4
  | tslz a =>
    cases h' with
    | tslnil => exact .tslnil
    | tslz a => exact .tslz a
    | tsl _ b o size us h2 h3 h4 => exact .tsl _ b o size us h2 h3 h4
  | sl rows =>
    cases h' with
    | slnil => exact .slnil
    | slz a cap => exact .slz a cap
    | sl _ b o cap size us h1 h2 h3 h4 => exact .sl _ b o cap size us h1 h2 h3 h4
  | tsl rows =>
    cases h' with
    | tslnil => exact .tslnil
    | tslz a => exact .tslz a
    | tsl _ b o size us h2 h3 h4 => exact .tsl _ b o size us h2 h3 h4
  | tslnil =>
    cases h' with
    | tslnil => exact .tslnil
    | tslz a => exact .tslz a
    | tsl _ b o size us h2 h3 h4 => exact .tsl _ b o size us h2 h3 h4
  | nils => cases h'; exact .nils
  | ownnil l ver k =>
    cases h' with
    | ownnil _ _ k' => exact .ownnil l ver k
    | own _ _ _ r k' hn =>
      have := hle.ar _ _ _ k; rw [k'] at this; cases this
  | own l ver n r k hn =>
    cases h' with
    | ownnil _ _ k' => have := hle.ar _ _ _ k; rw [k'] at this; cases this
    | own _ _ _ r' k' hn' =>
      have := hle.ar _ _ _ k; rw [k'] at this
      injection this with this; injection this with this; subst this
      exact .own l ver n r' k hn'
  | ptr l off b k =>
    cases h' with
    | ptr _ _ b' k' =>
      have := hle.bl _ _ k; rw [k'] at this; injection this with this; subst this
      exact .ptr l off b' k
  | fptr row off =>
    cases h' with
    | fptr _ _ b o us h1 h2 => exact .fptr _ _ b o us h1 h2
  | eptr l ver i off r k =>
    cases h' with
    | eptr _ _ _ _ r' k' =>
      have := hle.ar _ _ _ k; rw [k'] at this
      injection this with this; injection this with this; subst this
      exact .eptr l ver i off r' k
  | gptr g off => cases h'; exact .gptr g off
  | nilp => cases h'; exact .nilp
  | map l b k =>
    cases h' with
    | map _ b' k' =>
      have := hle.bl _ _ k; rw [k'] at this; injection this with this; subst this
      exact .map l b' k
  | nilm => cases h'; exact .nilm
  | fn f caps vs hs hh ih =>
    cases h' with
    | fn _ _ vs' hs' hh' =>
      exact .fn _ _ _ hs' fun i c v' hc hv' => by
        have hi : i < vs.size := by rw [← hs]; exact (List.getElem?_eq_some_iff.1 hc).1
        exact ih i c vs[i] hc (by simp [hi]) hle (hh' i c v' hc hv')
  | nilf => cases h'; exact .nilf
  | iface t a v _ ih =>
    cases h' with
    | iface _ _ x h => exact .iface _ _ x (ih hle h)
  | nili => cases h'; exact .nili
  | junk v => exact .junk _

theorem relL_back {C D : Cx} (hle : C.Le D) {as : List AV} {us us' : List Value} (h : RelL C as us) (h' : RelL D as us') : RelL ⟨D.im, C.bl, C.ar⟩ as us' := by
  refine ⟨h'.1, fun i c v' hc hv' => ?_⟩
  obtain ⟨v, _, k⟩ := h.get hc
  exact rel_back hle k (h'.2 i c v' hc hv')

/-- What has been handed in, and was left as it was, stands as it stood. -/
theorem inv_back {B : Base} {C D : Cx} {h h2 : Heap} {w w' : World} (hi : Inv B C h w) (hd : Inv B D h2 w') (hle : C.Le D) (hp : ∀ (l : Nat) blk, h[l]? = some blk → h2[l]? = some blk) : Inv B ⟨D.im, C.bl, C.ar⟩ h w' := by
  have bo : ∀ (l : Nat) blk, blockOf (⟨D.im, C.bl, C.ar⟩ : Cx) l blk = blockOf C l blk := fun l blk => by cases blk <;> rfl
  refine ⟨hd.im, hd.one, fun l blk hb => ?_, fun l l' blk blk' b h1 h2 h3 h4 => hi.inj l l' blk blk' b h1 h2 (by rw [← bo]; exact h3) (by rw [← bo]; exact h4), hi.fr, hi.fv, hd.hB, hd.low, hd.gl⟩
  have k := hi.ok l blk hb
  have k2 := hd.ok l blk (hp l blk hb)
  cases blk with
  | cells vs =>
    obtain ⟨b, cur, e, h1, h2, h3, h4, h5⟩ := k
    obtain ⟨b', cur', e', g1, g2, g3, g4, g5⟩ := k2
    have := hle.bl _ _ h1; rw [g1] at this; injection this with this; subst this
    exact ⟨b', cur', e', h1, g2, g3, g4, relL_back hle h5 g5⟩
  | arr sz ver rows wr =>
    rcases k with ⟨k, kr⟩ | ⟨r, cur, h1, k⟩
    · exact .inl ⟨k, kr⟩
    · rcases k2 with ⟨k2, kr2⟩ | ⟨r', cur', g1, k2⟩
      · have := hle.ar _ _ _ h1; rw [k2] at this; cases this
      · have := hle.ar _ _ _ h1; rw [g1] at this; injection this with this; injection this with this; subst this
        exact .inr ⟨r', cur', h1, k2⟩
  | map es =>
    obtain ⟨b, ms, ck, h1, k⟩ := k
    obtain ⟨b', ms', ck', g1, k2⟩ := k2
    have := hle.bl _ _ h1; rw [g1] at this; injection this with this; subst this
    exact ⟨b', ms', ck', h1, k2⟩
  | iter s pos =>
    obtain ⟨b, h1, k⟩ := k
    obtain ⟨b', g1, k2⟩ := k2
    have := hle.bl _ _ h1; rw [g1] at this; injection this with this; subst this
    exact ⟨b', h1, k2⟩
  | dead => trivial

/-- What a function that only looks comes to. -/
def lookQ (rs : List RV) (r : AV) (h0 : Heap) : MPost := fun x env fr h => (match x with | .exit _ => False | _ => True) ∧ ∃ v, resAV (getT env fr) h rs = some v ∧ view h v = some r ∧ ∃ t, freezeAll h (owns v) = h0 ++ t

/-- A function that only looks, as one that may turn things. -/
def lookF (F : List AV → Heap → Option AV) : List AV → Heap → Option (AV × Heap) := fun args h => (F args h).map fun r => (r, h)

section
variable {P : Program} {G : Gam}
theorem look_of (hm : P.follows .mixedOrders = true) {gv : Nat → Option (List AV)} (hG : GamOK P gv G) {f : FuncId} {fn : Func} {c : Code} (hf : P.funcs[f]? = some fn) (hb : fn.body = some c) {ks ow : List Nat} {dl : List (List Nat)} {rs : List RV} {mc : MC}
    (hks : ks.all (fun k => decide (k < fn.ntmps)) = true) (hrs : compRVs P fn.results.toList = some rs) (hmc : (compC P gv ks fn.ntmps ow c dl).1 = mc) {F : List AV → Heap → Option AV}
    (hF : ∀ args h r, F args h = some r → wpM G mc (lookQ rs r h) [] (frInit ks args) h) : GenOK P gv f (lookF F) := by
  intro B C h w args r h' vals hgv hi hr hF'
  subst hgv
  simp only [lookF, Option.map_eq_some_iff, Prod.mk.injEq] at hF'
  obtain ⟨r', hF', rfl, rfl⟩ := hF'
  have hst := start_ok (n := fn.ntmps) hi hks hr
  have hq := hF args h r' hF'
  rw [← hmc] at hq
  have hw := wpM_sound hm hG c dl _ [] _ h _ _ w hst (.refl _) (Below.refl _ _) rfl hq
  refine calls_of_wp hf hb (wp_mono hw fun e a' w' hp => ?_)
  obtain ⟨x, env, fr, h2, C', k1, ⟨k2, v, k3, k4, t, k4'⟩, k5, k6, k7, k8⟩ := hp
  obtain ⟨u, r1, r2⟩ := resAV_sound k5.inv k5.rel hrs k3
  have hfz : frz h2 v = some (r', freezeAll h2 (owns v)) := by simp [frz, k4]
  obtain ⟨D, d1, d2, d3, d4, d5⟩ := frz_sound k5.inv hfz r1
  have hle : C.Le D := k6.trans d1
  have hback := inv_back hi d2 hle (fun l blk hb => by rw [k4', List.getElem?_append_left (List.getElem?_eq_some_iff.1 hb).1]; exact hb)
  have fin : a'.defers = [] ∧ ∃ v, (results fn a'.tmps).run P w' = .ok v w' ∧ ∃ v' D, Ending.returned v = .returned v' ∧ C.Le D ∧ Inv B D h w' ∧ Rel D r' v' ∧ Below B w w' :=
    ⟨k8, u, r2, u, ⟨D.im, C.bl, C.ar⟩, rfl, ⟨hle.im, fun _ _ x => x, fun _ _ _ x => x⟩, hback, d3.mono ⟨fun _ _ _ x => x, (fun _ _ x => by cases x), (fun _ _ _ x => by cases x)⟩, k7⟩
  cases x <;> cases e <;> simp only [MX.is] at k1 <;> (try exact k1.elim) <;> (try exact k2.elim)
  · exact fin
  · exact fin
end
end Go.Proofs.YtmjdgpiofhildaaDoor
