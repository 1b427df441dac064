/- The law OriginUnions: the points,and what is asked at each. The law OriginUnions. -/
import Derived.Test.YtbfcbkjemlgnpaaGreatDoorOG
namespace Go.Proofs.YtbfcbkjemlgnpaaGreatDoor
open Go.RowKit Go.IntWalk
def endsO(l:List Sp):List Ln:=l.flatMap fun s=>[⟨s.p,s.f⟩,⟨s.p,s.t⟩]
def byO(a:Org):Org:=⟨[],linE a,[]⟩
def liO(a:Org):Org:=⟨[],a.by_,joinO a.inn a.lst⟩
abbrev HBU(a b:Org)(x:Ln)(u:Org):Heap:=[.cells a.cells,.cells b.cells,.cells x.row,.cells u.cells,.cells (byO a).cells,.cells (liO a).cells,.cells a.cells]
def Pts(HB H:Heap)(x:Ln)(X:AV)(P:List Ln):Prop:=
 (∃ T,H=HB++T)∧((X=.tsl [x.row]∧P=[x])∨∃ L v,HB.length≤L∧H[L]?=some (.arr 2 v (lnRows P) true)∧X=.own L v P.length∧v≤P.length)
theorem Pts.more{HB H:Heap}{x:Ln}{X:AV}{P:List Ln}(h:Pts HB H x X P)(t:Heap):Pts HB (H++t) x X P:=by
 obtain ⟨⟨T,rfl⟩,h⟩:=h
 refine ⟨⟨T++t,by simp⟩,?_⟩
 rcases h with h | ⟨L,v,h1,h2,h3,h4⟩
 ·exact .inl h
 ·exact .inr ⟨L,v,h1,get_more h2,h3,h4⟩
theorem Pts.cut{HB H:Heap}{x:Ln}{X:AV}{P:List Ln}(h:Pts HB H x X P){n:Nat}(hn:HB.length≤n){fr:List (Nat×AV)}(hX:∃ k,(k,X)∈fr):Pts HB (trunc n fr H) x X P:=by
 unfold trunc
 split
 ·rename_i hl
  simp only [Bool.and_eq_true]at hl;obtain ⟨⟨T,rfl⟩,h⟩:=h;refine ⟨⟨T.take (n-HB.length),by rw [List.take_append,List.take_of_length_le hn]⟩,?_⟩
  rcases h with h | ⟨L,v,h1,h2,h3,h4⟩
  ·exact .inl h
  ·refine .inr ⟨L,v,h1,?_,h3,h4⟩
   obtain ⟨k,hk⟩:=hX;have hlow:low n X=true:=by
    have:=hl.1;clear hl h1 h2 h4;induction fr with
    | nil=>cases hk
    | cons q r ih=>
     simp only [lowFr,Bool.and_eq_true]at this;rcases List.mem_cons.1 hk with rfl | hk
     ·exact this.1
     ·exact ih hk this.2
   subst h3;simp only [low,decide_eq_true_eq]at hlow;rw [List.getElem?_take,if_pos hlow]; exact h2
 ·exact h
theorem Pts.at{HB H:Heap}{x:Ln}{X:AV}{P:List Ln}(h:Pts HB H x X P){k:Nat}{b:Blk}(hb:HB[k]?=some b):H[k]?=some b:=by
 obtain ⟨⟨T,rfl⟩,_⟩:=h
 exact get_more hb
theorem Pts.app{G:Gam}{HB H:Heap}{x:Ln}{X:AV}{P:List Ln}(h:Pts HB H x X P)(y z:Ln)(hP:P.length≤1000000):∃ X' H',opV G false H (.app false 2 24) (some [X,.tsl [y.row,z.row]])=some (X',H')∧Pts HB H' x X' (P++[y,z]):=by
 obtain ⟨⟨T,rfl⟩,h⟩:=h
 rcases h with ⟨rfl,rfl⟩ | ⟨L,v,h1,h2,rfl,h4⟩
 ·refine ⟨.own (HB++T).length 0 3,(HB++T)++[.arr 2 0 [x.row,y.row,z.row] true],?_,⟨T++[.arr 2 0 [x.row,y.row,z.row] true],by simp⟩,.inr ⟨(HB++T).length,0,by simp,?_,rfl,by simp⟩⟩
  ·rw [opV_eff rfl]
   have e1:sizesOk 2 [y.row,z.row]=true:=rfl;have e2:sizesOk 2 [x.row]=true:=rfl;have e3:3*24≤byteMax:=by unfold byteMax; omega
   have e4:3≤byteMax:=by unfold byteMax; omega
   simp [evalEff,appRows,rowsOf,appAV,e1,e2,e3,e4]
  ·rw [List.getElem?_append_right (by simp)]; simp [lnRows]
 ·have hop:=op_app (G:=G) (s:=false) (h:=HB++T) (n:=2) (b:=24) (l:=L) (ver:=v) (k:=P.length) (x:=.tsl [y.row,z.row]) (new:=[y.row,z.row]) (rows:=lnRows P) rfl h2 (by simp) rfl (by simp) (by simp; unfold byteMax; omega) (by simp; unfold byteMax; omega)
  refine ⟨_,_,hop,?_,.inr ⟨L,v+2,h1,?_,by simp,by simp; omega⟩⟩
  ·refine ⟨T.set (L-HB.length) _,List.set_append_right _ _ h1⟩
  ·have hlt:=(List.getElem?_eq_some_iff.1 h2).1
   rw [List.getElem?_set_self hlt];simp [lnRows]
theorem Pts.len{HB H:Heap}{x:Ln}{X:AV}{P:List Ln}(h:Pts HB H x X P):lenAV H 1 X=some (.int .i64 (P.length:Int)):=by
 rcases h.2 with ⟨rfl,rfl⟩ | ⟨L,v,h1,h2,rfl,h4⟩
 ·rfl
 ·rfl
theorem Pts.row{HB H:Heap}{x:Ln}{X:AV}{P:List Ln}(h:Pts HB H x X P){i:Nat}{y:Ln}(hy:P[i]?=some y):∃ A,iadrAV 2 H X (.int .i64 (i:Int))=some A∧loadAV 2 true H A=some (.agg y.row):=by
 rcases h.2 with ⟨rfl,rfl⟩ | ⟨L,v,h1,h2,rfl,h4⟩
 ·have:i=0:=by have:=(List.getElem?_eq_some_iff.1 hy).1; simp at this; omega
  subst this;simp at hy; subst hy;exact ⟨.fptr x.row 0,by simp [iadrAV,Ln.row],ld_fln x _⟩
 ·refine ⟨.eptr L v i 0,iadr_own h2 (by simp) (lnRows_get hy) rfl,?_⟩
  rw [ld_eptr h2 (lnRows_get hy)]; simp [mkVal,Ln.row]
theorem un_L1{G:Gam}{a b u:Org}{x:Ln}{n:Nat}(hn:7≤n){l:List Sp}(hl:l.length≤12){ks:List MK}{Q:MPost}{T:AV}{j:Nat}(R:List Ln)
  (hk:∀ env H X,Pts (HBU a b x u) H x X R→exM G .normal ks Q env [(0,.agg a.cells),(1,.agg b.cells),(2,.agg x.row),(3,.ptr 0 0),(4,.ptr 1 0),(5,.ptr 2 0),(6,.bool false),(7,.ptr 3 0),(8,.int .i64 0),(9,.sl (spRows (linE a))),(10,.int .i64 0),(11,.ptr 4 0),(12,.int .i64 0),(13,.ptr 5 0),(14,.int .i64 0),(15,.ptr 6 0),(16,.int .i64 0),(17,X),(19,.sl (spRows l)),(21,.junk),(23,.junk),(24,.junk),(25,.junk),(26,.junk),(27,.junk),(28,.junk),(113,T),(114,.int .i64 6),(115,.int .i64 (j:Int)),(119,.sl (spRows l)),(120,.int .i64 (l.length:Int)),(121,.int .i64 (l.length:Int)),(140,.junk),(141,.junk),(142,.junk)] H) :
  ∀ (rest:List Sp) (i:Nat) (P:List Ln) (X:AV) (H:Heap),l.drop i=rest→i≤l.length→R=P++endsO rest→P.length+2*rest.length≤100000→Pts (HBU a b x u) H x X P→
  headM G [21] Mc.q37_L1 n (.blk 2::ks) Q [(0,.agg a.cells),(1,.agg b.cells),(2,.agg x.row),(3,.ptr 0 0),(4,.ptr 1 0),(5,.ptr 2 0),(6,.bool false),(7,.ptr 3 0),(8,.int .i64 0),(9,.sl (spRows (linE a))),(10,.int .i64 0),(11,.ptr 4 0),(12,.int .i64 0),(13,.ptr 5 0),(14,.int .i64 0),(15,.ptr 6 0),(16,.int .i64 0),(17,X),(19,.sl (spRows l)),(21,.junk),(23,.junk),(24,.junk),(25,.junk),(26,.junk),(27,.junk),(28,.junk),(113,T),(114,.int .i64 6),(115,.int .i64 (j:Int)),(119,.sl (spRows l)),(120,.int .i64 (l.length:Int)),(121,.int .i64 (i:Int)),(140,.junk),(141,.junk),(142,.junk)] H
 | [],i,P,X,H,hd,hi,hR,hP,hp=>by
  have hi2:=drop_nil hd;have e:i=l.length:=by omega
  subst e;have hq:ltB (l.length:Int) (l.length:Int)=false:=ltB_not.2 (by omega);have hRP:R=P:=by rw [hR]; simp [endsO]
  subst hRP;refine head_go (Mc.q37_L1.eq_1) ?_
  have hp2:=hp.cut (n:=n) hn (fr:=[(0,.agg a.cells),(1,.agg b.cells),(2,.agg x.row),(3,.ptr 0 0),(4,.ptr 1 0),(5,.ptr 2 0),(6,.bool false),(7,.ptr 3 0),(8,.int .i64 0),(9,.sl (spRows (linE a))),(10,.int .i64 0),(11,.ptr 4 0),(12,.int .i64 0),(13,.ptr 5 0),(14,.int .i64 0),(15,.ptr 6 0),(16,.int .i64 0),(17,X),(19,.sl (spRows l)),(21,.junk),(23,.junk),(24,.junk),(25,.junk),(26,.junk),(27,.junk),(28,.junk),(113,T),(114,.int .i64 6),(115,.int .i64 (j:Int)),(119,.sl (spRows l)),(120,.int .i64 (l.length:Int)),(121,.int .i64 (l.length:Int)),(140,.junk),(141,.junk),(142,.junk)]) ⟨17,by simp⟩;rw [show junkAll [21] [(0,.agg a.cells),(1,.agg b.cells),(2,.agg x.row),(3,.ptr 0 0),(4,.ptr 1 0),(5,.ptr 2 0),(6,.bool false),(7,.ptr 3 0),(8,.int .i64 0),(9,.sl (spRows (linE a))),(10,.int .i64 0),(11,.ptr 4 0),(12,.int .i64 0),(13,.ptr 5 0),(14,.int .i64 0),(15,.ptr 6 0),(16,.int .i64 0),(17,X),(19,.sl (spRows l)),(21,.junk),(23,.junk),(24,.junk),(25,.junk),(26,.junk),(27,.junk),(28,.junk),(113,T),(114,.int .i64 6),(115,.int .i64 (j:Int)),(119,.sl (spRows l)),(120,.int .i64 (l.length:Int)),(121,.int .i64 (l.length:Int)),(140,.junk),(141,.junk),(142,.junk)]=[(0,.agg a.cells),(1,.agg b.cells),(2,.agg x.row),(3,.ptr 0 0),(4,.ptr 1 0),(5,.ptr 2 0),(6,.bool false),(7,.ptr 3 0),(8,.int .i64 0),(9,.sl (spRows (linE a))),(10,.int .i64 0),(11,.ptr 4 0),(12,.int .i64 0),(13,.ptr 5 0),(14,.int .i64 0),(15,.ptr 6 0),(16,.int .i64 0),(17,X),(19,.sl (spRows l)),(21,.junk),(23,.junk),(24,.junk),(25,.junk),(26,.junk),(27,.junk),(28,.junk),(113,T),(114,.int .i64 6),(115,.int .i64 (j:Int)),(119,.sl (spRows l)),(120,.int .i64 (l.length:Int)),(121,.int .i64 (l.length:Int)),(140,.junk),(141,.junk),(142,.junk)]from rfl];generalize trunc n _ H=H' at hp2 ⊢;generalize spRows l=RL at *;simp ;exact hk _ _ _ hp2
 | s::rest,i,P,X,H,hd,hi,hR,hP,hp=>by
  obtain ⟨hlt,hx,hxd⟩:=drop_cons hd;have hq:ltB (i:Int) (l.length:Int)=true:=ltB_iff.2 (by omega);have hw:=wrap1 (i:=i) (by unfold big; omega);refine head_go (Mc.q37_L1.eq_1) ?_
  have hp2:=hp.cut (n:=n) hn (fr:=[(0,.agg a.cells),(1,.agg b.cells),(2,.agg x.row),(3,.ptr 0 0),(4,.ptr 1 0),(5,.ptr 2 0),(6,.bool false),(7,.ptr 3 0),(8,.int .i64 0),(9,.sl (spRows (linE a))),(10,.int .i64 0),(11,.ptr 4 0),(12,.int .i64 0),(13,.ptr 5 0),(14,.int .i64 0),(15,.ptr 6 0),(16,.int .i64 0),(17,X),(19,.sl (spRows l)),(21,.junk),(23,.junk),(24,.junk),(25,.junk),(26,.junk),(27,.junk),(28,.junk),(113,T),(114,.int .i64 6),(115,.int .i64 (j:Int)),(119,.sl (spRows l)),(120,.int .i64 (l.length:Int)),(121,.int .i64 (i:Int)),(140,.junk),(141,.junk),(142,.junk)]) ⟨17,by simp⟩;rw [show junkAll [21] [(0,.agg a.cells),(1,.agg b.cells),(2,.agg x.row),(3,.ptr 0 0),(4,.ptr 1 0),(5,.ptr 2 0),(6,.bool false),(7,.ptr 3 0),(8,.int .i64 0),(9,.sl (spRows (linE a))),(10,.int .i64 0),(11,.ptr 4 0),(12,.int .i64 0),(13,.ptr 5 0),(14,.int .i64 0),(15,.ptr 6 0),(16,.int .i64 0),(17,X),(19,.sl (spRows l)),(21,.junk),(23,.junk),(24,.junk),(25,.junk),(26,.junk),(27,.junk),(28,.junk),(113,T),(114,.int .i64 6),(115,.int .i64 (j:Int)),(119,.sl (spRows l)),(120,.int .i64 (l.length:Int)),(121,.int .i64 (i:Int)),(140,.junk),(141,.junk),(142,.junk)]=[(0,.agg a.cells),(1,.agg b.cells),(2,.agg x.row),(3,.ptr 0 0),(4,.ptr 1 0),(5,.ptr 2 0),(6,.bool false),(7,.ptr 3 0),(8,.int .i64 0),(9,.sl (spRows (linE a))),(10,.int .i64 0),(11,.ptr 4 0),(12,.int .i64 0),(13,.ptr 5 0),(14,.int .i64 0),(15,.ptr 6 0),(16,.int .i64 0),(17,X),(19,.sl (spRows l)),(21,.junk),(23,.junk),(24,.junk),(25,.junk),(26,.junk),(27,.junk),(28,.junk),(113,T),(114,.int .i64 6),(115,.int .i64 (j:Int)),(119,.sl (spRows l)),(120,.int .i64 (l.length:Int)),(121,.int .i64 (i:Int)),(140,.junk),(141,.junk),(142,.junk)]from rfl];generalize trunc n _ H=H0 at hp2 ⊢;have hp3:=hp2.more [.cells s.row];have ia:=ia_sp hx H0;have l3:=ld_fsp s H0;have al:opV G false H0 (.alloc [.str [],.int .i64 0,.int .i64 0]) (some [])=some (.ptr H0.length 0,H0++[.cells [.str [],.int .i64 0,.int .i64 0]]):=by rw [op_alloc]
  have sn:stAV 3 (H0++[.cells [.str [],.int .i64 0,.int .i64 0]]) (.ptr H0.length 0) (.agg s.row)=some (H0++[.cells s.row]):=st3_new;have g:(H0++[Blk.cells s.row])[H0.length]?=some (.cells s.row):=by simp
  have c0:loadAV 1 false (H0++[.cells s.row]) (.ptr H0.length 0)=some (.str s.p):=ld_cell g rfl;have c1:loadAV 1 false (H0++[.cells s.row]) (.ptr H0.length 1)=some (.int .i64 s.f):=ld_cell g rfl;have c2:loadAV 1 false (H0++[.cells s.row]) (.ptr H0.length 2)=some (.int .i64 s.t):=ld_cell g rfl;have bd:∀ (n:Int) st h,opV G st h (.bld [.str [],.int .i64 0] [(0,1),(1,1)]) (some [.str s.p,.int .i64 n])=some (.agg [.str s.p,.int .i64 n],h):=fun n st h=>by rw [opV_quiet rfl]; rfl
  have bs:∀ st h,opV G st h (.bsl false 2) (some [.agg [.str s.p,.int .i64 s.f],.agg [.str s.p,.int .i64 s.t]])=some (.tsl [[.str s.p,.int .i64 s.f],[.str s.p,.int .i64 s.t]],h):=fun st h=>by rw [op_bsl rfl]; rfl
  obtain ⟨X',H',ap,hp4⟩:=hp3.app (G:=G) ⟨s.p,s.f⟩ ⟨s.p,s.t⟩ (by omega);simp only [Ln.row]at ap;have hle:(P++[(⟨s.p,s.f⟩:Ln),⟨s.p,s.t⟩]).length+2*rest.length≤100000:=by simp at hP ⊢; omega
  have nx:=un_L1 (G:=G) hn hl R hk rest (i+1) (P++[⟨s.p,s.f⟩,⟨s.p,s.t⟩]) X' _ hxd (by omega) (by rw [hR]; simp [endsO]) hle (hp4.cut (n:=n) hn (fr:=[(0,.agg a.cells),(1,.agg b.cells),(2,.agg x.row),(3,.ptr 0 0),(4,.ptr 1 0),(5,.ptr 2 0),(6,.bool false),(7,.ptr 3 0),(8,.int .i64 0),(9,.sl (spRows (linE a))),(10,.int .i64 0),(11,.ptr 4 0),(12,.int .i64 0),(13,.ptr 5 0),(14,.int .i64 0),(15,.ptr 6 0),(16,.int .i64 0),(17,X'),(19,.sl (spRows l)),(21,.junk),(23,.junk),(24,.junk),(25,.junk),(26,.junk),(27,.junk),(28,.junk),(113,T),(114,.int .i64 6),(115,.int .i64 (j:Int)),(119,.sl (spRows l)),(120,.int .i64 (l.length:Int)),(121,.int .i64 ((i:Int)+1)),(140,.junk),(141,.junk),(142,.junk)]) ⟨17,by simp⟩);generalize H0++[Blk.cells s.row]=H2 at *;generalize spRows l=RL at *;simp [hq,ia,l3,al,sn,c0,c1,c2,bd,bs,ap,hw,-loadAV,-stAV_ptr,-op_bsl,-op_alloc];refine head_of ?_
  simpa [junkAll] using nx
theorem ends_len(l:List Sp):(endsO l).length=2*l.length:=by
 induction l with
 | nil=>rfl
 | cons s r ih=>simp only [endsO,List.flatMap_cons,List.length_append,List.length_cons,List.length_nil]at ih ⊢; omega
theorem ends6:∀ (S:List (List Sp)),(∀ l∈S,l.length≤12)→(S.flatMap endsO).length≤24*S.length
 | [],_=>by simp
 | l::r,h=>by
  have h1:=h l (by simp);have h2:=ends6 r fun m hm=>h m (List.mem_cons_of_mem _ hm)
  have h3:=ends_len l;rw [List.flatMap_cons,List.length_append,List.length_cons]; omega
theorem un_L0{G:Gam}{a b u:Org}{x:Ln}{S:List (List Sp)}(hS6:S.length=6)(hS:∀ l∈S,l.length≤12){ks:List MK}{Q:MPost}(R:List Ln)
  (hk:∀ env H X,Pts (HBU a b x u) H x X R→exM G .normal ks Q env [(0,.agg a.cells),(1,.agg b.cells),(2,.agg x.row),(3,.ptr 0 0),(4,.ptr 1 0),(5,.ptr 2 0),(6,.bool false),(7,.ptr 3 0),(8,.int .i64 0),(9,.sl (spRows (linE a))),(10,.int .i64 0),(11,.ptr 4 0),(12,.int .i64 0),(13,.ptr 5 0),(14,.int .i64 0),(15,.ptr 6 0),(16,.int .i64 0),(17,X),(19,.junk),(21,.junk),(23,.junk),(24,.junk),(25,.junk),(26,.junk),(27,.junk),(28,.junk),(113,.tsl (S.map setRow)),(114,.int .i64 6),(115,.int .i64 6),(119,.junk),(120,.junk),(121,.junk),(140,.junk),(141,.junk),(142,.junk)] H) :
  ∀ (rest:List (List Sp)) (i:Nat) (P:List Ln) (X:AV) (H:Heap),S.drop i=rest→i≤S.length→R=P++rest.flatMap endsO→P.length+24*rest.length≤100000→Pts (HBU a b x u) H x X P→
  headM G [19,21,119,120,121] Mc.q37_L0 7 (.blk 0::ks) Q [(0,.agg a.cells),(1,.agg b.cells),(2,.agg x.row),(3,.ptr 0 0),(4,.ptr 1 0),(5,.ptr 2 0),(6,.bool false),(7,.ptr 3 0),(8,.int .i64 0),(9,.sl (spRows (linE a))),(10,.int .i64 0),(11,.ptr 4 0),(12,.int .i64 0),(13,.ptr 5 0),(14,.int .i64 0),(15,.ptr 6 0),(16,.int .i64 0),(17,X),(19,.junk),(21,.junk),(23,.junk),(24,.junk),(25,.junk),(26,.junk),(27,.junk),(28,.junk),(113,.tsl (S.map setRow)),(114,.int .i64 6),(115,.int .i64 (i:Int)),(119,.junk),(120,.junk),(121,.junk),(140,.junk),(141,.junk),(142,.junk)] H
 | [],i,P,X,H,hd,hi,hR,hP,hp=>by
  have hi2:=drop_nil hd;have e:(i:Int)=6:=by omega
  have hq:ltB 6 6=false:=rfl;have hRP:R=P:=by rw [hR]; simp
  subst hRP;rw [e];refine head_go (Mc.q37_L0.eq_1) ?_
  have hp2:=hp.cut (n:=7) (Nat.le_refl _) (fr:=[(0,.agg a.cells),(1,.agg b.cells),(2,.agg x.row),(3,.ptr 0 0),(4,.ptr 1 0),(5,.ptr 2 0),(6,.bool false),(7,.ptr 3 0),(8,.int .i64 0),(9,.sl (spRows (linE a))),(10,.int .i64 0),(11,.ptr 4 0),(12,.int .i64 0),(13,.ptr 5 0),(14,.int .i64 0),(15,.ptr 6 0),(16,.int .i64 0),(17,X),(19,.junk),(21,.junk),(23,.junk),(24,.junk),(25,.junk),(26,.junk),(27,.junk),(28,.junk),(113,.tsl (S.map setRow)),(114,.int .i64 6),(115,.int .i64 6),(119,.junk),(120,.junk),(121,.junk),(140,.junk),(141,.junk),(142,.junk)]) ⟨17,by simp⟩;rw [show junkAll [19,21,119,120,121] [(0,.agg a.cells),(1,.agg b.cells),(2,.agg x.row),(3,.ptr 0 0),(4,.ptr 1 0),(5,.ptr 2 0),(6,.bool false),(7,.ptr 3 0),(8,.int .i64 0),(9,.sl (spRows (linE a))),(10,.int .i64 0),(11,.ptr 4 0),(12,.int .i64 0),(13,.ptr 5 0),(14,.int .i64 0),(15,.ptr 6 0),(16,.int .i64 0),(17,X),(19,.junk),(21,.junk),(23,.junk),(24,.junk),(25,.junk),(26,.junk),(27,.junk),(28,.junk),(113,.tsl (S.map setRow)),(114,.int .i64 6),(115,.int .i64 6),(119,.junk),(120,.junk),(121,.junk),(140,.junk),(141,.junk),(142,.junk)]=[(0,.agg a.cells),(1,.agg b.cells),(2,.agg x.row),(3,.ptr 0 0),(4,.ptr 1 0),(5,.ptr 2 0),(6,.bool false),(7,.ptr 3 0),(8,.int .i64 0),(9,.sl (spRows (linE a))),(10,.int .i64 0),(11,.ptr 4 0),(12,.int .i64 0),(13,.ptr 5 0),(14,.int .i64 0),(15,.ptr 6 0),(16,.int .i64 0),(17,X),(19,.junk),(21,.junk),(23,.junk),(24,.junk),(25,.junk),(26,.junk),(27,.junk),(28,.junk),(113,.tsl (S.map setRow)),(114,.int .i64 6),(115,.int .i64 6),(119,.junk),(120,.junk),(121,.junk),(140,.junk),(141,.junk),(142,.junk)]from rfl];generalize trunc 7 _ H=H' at hp2 ⊢;generalize S.map setRow=RS at *;simp ;exact hk _ _ _ hp2
 | l::rest,i,P,X,H,hd,hi,hR,hP,hp=>by
  obtain ⟨hlt,hx,hxd⟩:=drop_cons hd;have hq:ltB (i:Int) 6=true:=ltB_iff.2 (by omega);have hw:=wrap1 (i:=i) (by unfold big; omega);have hl:=hS l (List.mem_of_getElem? hx);have hel:=ends_len l;refine head_go (Mc.q37_L0.eq_1) ?_
  have hp2:=hp.cut (n:=7) (Nat.le_refl _) (fr:=[(0,.agg a.cells),(1,.agg b.cells),(2,.agg x.row),(3,.ptr 0 0),(4,.ptr 1 0),(5,.ptr 2 0),(6,.bool false),(7,.ptr 3 0),(8,.int .i64 0),(9,.sl (spRows (linE a))),(10,.int .i64 0),(11,.ptr 4 0),(12,.int .i64 0),(13,.ptr 5 0),(14,.int .i64 0),(15,.ptr 6 0),(16,.int .i64 0),(17,X),(19,.junk),(21,.junk),(23,.junk),(24,.junk),(25,.junk),(26,.junk),(27,.junk),(28,.junk),(113,.tsl (S.map setRow)),(114,.int .i64 6),(115,.int .i64 (i:Int)),(119,.junk),(120,.junk),(121,.junk),(140,.junk),(141,.junk),(142,.junk)]) ⟨17,by simp⟩;rw [show junkAll [19,21,119,120,121] [(0,.agg a.cells),(1,.agg b.cells),(2,.agg x.row),(3,.ptr 0 0),(4,.ptr 1 0),(5,.ptr 2 0),(6,.bool false),(7,.ptr 3 0),(8,.int .i64 0),(9,.sl (spRows (linE a))),(10,.int .i64 0),(11,.ptr 4 0),(12,.int .i64 0),(13,.ptr 5 0),(14,.int .i64 0),(15,.ptr 6 0),(16,.int .i64 0),(17,X),(19,.junk),(21,.junk),(23,.junk),(24,.junk),(25,.junk),(26,.junk),(27,.junk),(28,.junk),(113,.tsl (S.map setRow)),(114,.int .i64 6),(115,.int .i64 (i:Int)),(119,.junk),(120,.junk),(121,.junk),(140,.junk),(141,.junk),(142,.junk)]=[(0,.agg a.cells),(1,.agg b.cells),(2,.agg x.row),(3,.ptr 0 0),(4,.ptr 1 0),(5,.ptr 2 0),(6,.bool false),(7,.ptr 3 0),(8,.int .i64 0),(9,.sl (spRows (linE a))),(10,.int .i64 0),(11,.ptr 4 0),(12,.int .i64 0),(13,.ptr 5 0),(14,.int .i64 0),(15,.ptr 6 0),(16,.int .i64 0),(17,X),(19,.junk),(21,.junk),(23,.junk),(24,.junk),(25,.junk),(26,.junk),(27,.junk),(28,.junk),(113,.tsl (S.map setRow)),(114,.int .i64 6),(115,.int .i64 (i:Int)),(119,.junk),(120,.junk),(121,.junk),(140,.junk),(141,.junk),(142,.junk)]from rfl];generalize trunc 7 _ H=H0 at hp2 ⊢;have hg:=setR_get hx;have ia:∀ H,iadrAV 1 H (.tsl (S.map setRow)) (.int .i64 (i:Int))=some (.fptr (setRow l) 0):=fun H=>by
   have:(setRow l).length=1:=rfl;simp [iadrAV,hg,this]
  have l1:∀ H,loadAV 1 false H (.fptr (setRow l) 0)=some (.sl (spRows l)):=fun H=>by simp [loadAV,cut,mkVal,setRow]
  have ll:∀ H:Heap,lenAV H 1 (.sl (spRows l))=some (.int .i64 (l.length:Int)):=fun H=>by simp [lenAV]
  have h7:7≤H0.length:=by obtain ⟨⟨T,rfl⟩,_⟩:=hp2; simp
  have L1:=fun ks Q hk=>un_L1 (G:=G) (a:=a) (b:=b) (u:=u) (x:=x) h7 (l:=l) hl (ks:=ks) (Q:=Q) (T:=.tsl (S.map setRow)) (j:=i) (P++endsO l) hk l 0 P X H0 rfl (by omega) rfl (by simp at hP; omega) hp2
  have next:=fun X' H' (hpn:Pts (HBU a b x u) H' x X' (P++endsO l))=>un_L0 (G:=G) hS6 hS R hk rest (i+1) (P++endsO l) X' _ hxd (by omega) (by rw [hR,List.flatMap_cons]; simp) (by simp at hP ⊢; omega) (hpn.cut (n:=7) (Nat.le_refl _) (fr:=[(0,.agg a.cells),(1,.agg b.cells),(2,.agg x.row),(3,.ptr 0 0),(4,.ptr 1 0),(5,.ptr 2 0),(6,.bool false),(7,.ptr 3 0),(8,.int .i64 0),(9,.sl (spRows (linE a))),(10,.int .i64 0),(11,.ptr 4 0),(12,.int .i64 0),(13,.ptr 5 0),(14,.int .i64 0),(15,.ptr 6 0),(16,.int .i64 0),(17,X'),(19,.junk),(21,.junk),(23,.junk),(24,.junk),(25,.junk),(26,.junk),(27,.junk),(28,.junk),(113,.tsl (S.map setRow)),(114,.int .i64 6),(115,.int .i64 ((i:Int)+1)),(119,.junk),(120,.junk),(121,.junk),(140,.junk),(141,.junk),(142,.junk)]) ⟨17,by simp⟩)
  generalize S.map setRow=RS at *;generalize hRL:spRows l=RL at *;simp [hq,ia,l1,ll,-loadAV,-lenAV];refine L1 _ _ (fun env H' X' hpn=>?_)
  have nx:=next X' H' hpn
  simp [hw];refine head_of ?_
  simpa [junkAll] using nx
theorem un_L3{G:Gam}{a b:Org}{x:Ln}{X B T N I v28:AV}{H:Heap}{pl ql rl:List Int}(hC:G Fn.q31=some (.pure F_hasI))(h1:pl.length≤1000000)(h2:ql.length≤1000000)(h3:rl.length≤1000000)
  (hall:∀ r:Int,rl.contains r=(pl.contains r||ql.contains r)) {ks:List MK} {Q:MPost}
  (hk:∀ env,exM G .normal ks Q env [(0,.agg a.cells),(1,.agg b.cells),(2,.agg x.row),(3,.ptr 0 0),(4,.ptr 1 0),(5,.ptr 2 0),(6,.bool false),(7,.ptr 3 0),(8,.int .i64 0),(9,.sl (spRows (linE a))),(10,.int .i64 0),(11,.ptr 4 0),(12,.int .i64 0),(13,.ptr 5 0),(14,.int .i64 0),(15,.ptr 6 0),(16,.int .i64 0),(17,X),(19,.junk),(21,.junk),(23,B),(24,.sl (iRows pl)),(25,.sl (iRows ql)),(26,.sl (iRows rl)),(27,.int .i64 4),(28,v28),(113,T),(114,.int .i64 6),(115,.int .i64 6),(119,.junk),(120,.junk),(121,.junk),(140,X),(141,N),(142,I)] H) :
  ∀ (m:Nat) (r:Int),r+m=4→m≤3→
  headM G [] Mc.q37_L3 H.length (.blk 6::ks) Q [(0,.agg a.cells),(1,.agg b.cells),(2,.agg x.row),(3,.ptr 0 0),(4,.ptr 1 0),(5,.ptr 2 0),(6,.bool false),(7,.ptr 3 0),(8,.int .i64 0),(9,.sl (spRows (linE a))),(10,.int .i64 0),(11,.ptr 4 0),(12,.int .i64 0),(13,.ptr 5 0),(14,.int .i64 0),(15,.ptr 6 0),(16,.int .i64 0),(17,X),(19,.junk),(21,.junk),(23,B),(24,.sl (iRows pl)),(25,.sl (iRows ql)),(26,.sl (iRows rl)),(27,.int .i64 r),(28,v28),(113,T),(114,.int .i64 6),(115,.int .i64 6),(119,.junk),(120,.junk),(121,.junk),(140,X),(141,N),(142,I)] H
 | 0,r,hr,hm=>by
  have e:r=4:=by omega
  subst e;have q:ltB 3 4=true:=rfl;refine head_go (Mc.q37_L3.eq_1) ?_
  rw [vtrunc_len rfl];simp [q];exact hk _
 | m+1,r,hr,hm=>by
  have q:ltB 3 r=false:=ltB_not.2 (by omega);have w:IntKind.i64.wrap (r+1)=r+1:=i64_in _ ⟨by omega,by omega⟩;have cp:=use_hasI hC h1 r;have cq:=use_hasI hC h2 r;have cr:=use_hasI hC h3 r;rw [hall]at cr;have bb:∀ (v:Bool) st H,opV G st H (.eqB true) (some [.bool v,.bool v])=some (.bool false,H):=fun v st H=>by rw [opV_quiet rfl]; simp [evalPure]
  have ih:=un_L3 hC h1 h2 h3 hall hk m (r+1) (by omega) (by omega);refine head_go (Mc.q37_L3.eq_1) ?_
  rw [vtrunc_len rfl];generalize iRows pl=RP at *;generalize iRows ql=RQ at *;generalize iRows rl=RR at *;cases c1:pl.contains r with
  | true=>
   rw [c1,Bool.true_or]at cr;rw [c1]at cp;simp [q,cp,cr,bb,w];refine head_of ?_
   rw [vtrunc_len rfl];simpa using ih
  | false=>
   rw [c1,Bool.false_or]at cr;rw [c1]at cp;generalize ql.contains r=c2 at *;simp [q,cp,cq,cr,bb,w];refine head_of ?_
   rw [vtrunc_len rfl];simpa using ih
theorem routes_has{o:Org}(hv:oValid o=true)(y:Ln)(r:Int):(routesE o y).contains r=((r == 1||r == 2||r == 3)&&hasO (setN o r) y):=by
 have e:routesE o y=[1,2,3].filter fun r=>hasO (setN o r) y:=by simp [routesE,hv]
 rw [e,Bool.eq_iff_iff,List.contains_iff_mem,List.mem_filter]
 simp [or_assoc]
theorem un_valid{a b:Org}(ha:oValid a=true)(hb:oValid b=true):(unE a b).2=0∧oValid (unE a b).1=true∧∀ r y,hasO (setN (unE a b).1 r) y=(hasO (setN a r) y||hasO (setN b r) y):=by
 obtain ⟨x1,x2,x3⟩:=oValid_of ha
 obtain ⟨y1,y2,y3⟩:=oValid_of hb
 have e:unE a b=(⟨joinO a.inn b.inn,joinO a.by_ b.by_,joinO a.lst b.lst⟩,0):=by simp [unE,ha,hb]
 rw [e]
 refine ⟨rfl,by simp [oValid,(join_valid x1 y1).1,(join_valid x2 y2).1,(join_valid x3 y3).1],fun r y=>?_⟩
 unfold setN
 split
 ·exact (join_valid x1 y1).2 y
 ·split
  ·exact (join_valid x2 y2).2 y
  ·exact (join_valid x3 y3).2 y
theorem lin_has{a:Org}(ha:oValid a=true)(y:Ln):hasO (linE a) y=(hasO a.inn y||hasO a.by_ y||hasO a.lst y):=by
 obtain ⟨x1,x2,x3⟩:=oValid_of ha
 obtain ⟨j1,j2⟩:=join_valid x2 x3
 unfold linE
 rw [(join_valid x1 j1).2,j2,Bool.or_assoc]
theorem routes_eq{o:Org}(hv:oValid o=true)(y:Ln):routesE o y=(if hasO o.inn y then [1]else [])++(if hasO o.by_ y then [2]else [])++(if hasO o.lst y then [3]else []):=by
 have s1:setN o 1=o.inn:=rfl
 have s2:setN o 2=o.by_:=rfl
 have s3:setN o 3=o.lst:=rfl
 simp only [routesE,hv,if_true,List.filter_cons,List.filter_nil,s1,s2,s3]
 cases hasO o.inn y <;> cases hasO o.by_ y <;> cases hasO o.lst y <;> rfl
theorem at_point{a:Org}(ha:oValid a=true)(y:Ln) :
  ltB 0 ((routesE a y).length:Int)=hasO (linE a) y∧routesE (byO a) y=(if hasO (linE a) y then [2]else [])∧ltB 0 ((routesE (liO a) y).length:Int)=hasO (linE a) y∧(routesE (liO a) y).contains 1=false:=by
 obtain ⟨x1,x2,x3⟩:=oValid_of ha
 obtain ⟨j1,j2⟩:=join_valid x2 x3
 obtain ⟨i1,i2⟩:=join_valid x1 x3
 have vl:=(join_valid x1 j1).1
 have vb:oValid (byO a)=true:=by simp [oValid,byO,linE,vl,show validO []=true from rfl]
 have vi:oValid (liO a)=true:=by simp [oValid,liO,x2,i1,show validO []=true from rfl]
 have hl:=lin_has ha y
 rw [routes_eq ha,routes_eq vb,routes_eq vi,hl]
 have e1:hasO (byO a).inn y=false:=rfl
 have e2:hasO (byO a).by_ y=(hasO a.inn y||hasO a.by_ y||hasO a.lst y):=hl
 have e3:hasO (byO a).lst y=false:=rfl
 have e4:hasO (liO a).inn y=false:=rfl
 have e5:hasO (liO a).by_ y=hasO a.by_ y:=rfl
 have e6:hasO (liO a).lst y=(hasO a.inn y||hasO a.lst y):=i2 y
 rw [e1,e2,e3,e4,e5,e6]
 cases hasO a.inn y <;> cases hasO a.by_ y <;> cases hasO a.lst y <;> refine ⟨?_,?_,?_,?_⟩ <;> rfl
theorem un_L2{G:Gam}(hR:G Fn.q99=some (.pure F_routes))(hC:G Fn.q31=some (.pure F_hasI))(hH:G Fn.lineset_Has=some (.pure F_lHas)){a b:Org}{x:Ln}{T:AV}(sa:smO a=true)(sb:smO b=true)(va:oValid a=true)(vb:oValid b=true){n:Nat}(hn:7≤n)(P:List Ln)(hP:P.length≤100000) :
  ∀ (rest:List Ln) (i:Nat) (X:AV) (H:Heap),P.drop i=rest→i≤P.length→Pts (HBU a b x (unE a b).1) H x X P→
  headM G [23,24,25,26,27,28] Mc.q37_L2 n [.blk 4,.seq (.seq (.reg [kz 6 .mv [.c (.bool true)]]) .ret)] (pureQ Rs.q37 (.bool true)) [(0,.agg a.cells),(1,.agg b.cells),(2,.agg x.row),(3,.ptr 0 0),(4,.ptr 1 0),(5,.ptr 2 0),(6,.bool false),(7,.ptr 3 0),(8,.int .i64 0),(9,.sl (spRows (linE a))),(10,.int .i64 0),(11,.ptr 4 0),(12,.int .i64 0),(13,.ptr 5 0),(14,.int .i64 0),(15,.ptr 6 0),(16,.int .i64 0),(17,X),(19,.junk),(21,.junk),(23,.junk),(24,.junk),(25,.junk),(26,.junk),(27,.junk),(28,.junk),(113,T),(114,.int .i64 6),(115,.int .i64 6),(119,.junk),(120,.junk),(121,.junk),(140,X),(141,.int .i64 (P.length:Int)),(142,.int .i64 (i:Int))] H
 | [],i,X,H,hd,hi,hp=>by
  have hi2:=drop_nil hd;have hq:ltB (i:Int) (P.length:Int)=false:=ltB_not.2 (by omega);refine head_go (Mc.q37_L2.eq_1) ?_
  generalize trunc n _ H=H';simp [junkAll,hq,pureQ,Rs.q37]
 | y::rest,i,X,H,hd,hi,hp=>by
  obtain ⟨hlt,hy,hyd⟩:=drop_cons hd;have hq:ltB (i:Int) (P.length:Int)=true:=ltB_iff.2 (by omega);have hw:=wrap1 (i:=i) (by unfold big; omega);refine head_go (Mc.q37_L2.eq_1) ?_
  have hp2:=hp.cut (n:=n) hn (fr:=[(0,.agg a.cells),(1,.agg b.cells),(2,.agg x.row),(3,.ptr 0 0),(4,.ptr 1 0),(5,.ptr 2 0),(6,.bool false),(7,.ptr 3 0),(8,.int .i64 0),(9,.sl (spRows (linE a))),(10,.int .i64 0),(11,.ptr 4 0),(12,.int .i64 0),(13,.ptr 5 0),(14,.int .i64 0),(15,.ptr 6 0),(16,.int .i64 0),(17,X),(19,.junk),(21,.junk),(23,.junk),(24,.junk),(25,.junk),(26,.junk),(27,.junk),(28,.junk),(113,T),(114,.int .i64 6),(115,.int .i64 6),(119,.junk),(120,.junk),(121,.junk),(140,X),(141,.int .i64 (P.length:Int)),(142,.int .i64 (i:Int))]) ⟨17,by simp⟩;rw [show junkAll [23,24,25,26,27,28] [(0,.agg a.cells),(1,.agg b.cells),(2,.agg x.row),(3,.ptr 0 0),(4,.ptr 1 0),(5,.ptr 2 0),(6,.bool false),(7,.ptr 3 0),(8,.int .i64 0),(9,.sl (spRows (linE a))),(10,.int .i64 0),(11,.ptr 4 0),(12,.int .i64 0),(13,.ptr 5 0),(14,.int .i64 0),(15,.ptr 6 0),(16,.int .i64 0),(17,X),(19,.junk),(21,.junk),(23,.junk),(24,.junk),(25,.junk),(26,.junk),(27,.junk),(28,.junk),(113,T),(114,.int .i64 6),(115,.int .i64 6),(119,.junk),(120,.junk),(121,.junk),(140,X),(141,.int .i64 (P.length:Int)),(142,.int .i64 (i:Int))]=[(0,.agg a.cells),(1,.agg b.cells),(2,.agg x.row),(3,.ptr 0 0),(4,.ptr 1 0),(5,.ptr 2 0),(6,.bool false),(7,.ptr 3 0),(8,.int .i64 0),(9,.sl (spRows (linE a))),(10,.int .i64 0),(11,.ptr 4 0),(12,.int .i64 0),(13,.ptr 5 0),(14,.int .i64 0),(15,.ptr 6 0),(16,.int .i64 0),(17,X),(19,.junk),(21,.junk),(23,.junk),(24,.junk),(25,.junk),(26,.junk),(27,.junk),(28,.junk),(113,T),(114,.int .i64 6),(115,.int .i64 6),(119,.junk),(120,.junk),(121,.junk),(140,X),(141,.int .i64 (P.length:Int)),(142,.int .i64 (i:Int))]from rfl];generalize trunc n _ H=H0 at hp2 ⊢;obtain ⟨A,ia,la⟩:=hp2.row hy;have al:opV G false H0 (.alloc [.str [],.int .i64 0]) (some [])=some (.ptr H0.length 0,H0++[.cells [.str [],.int .i64 0]]):=by rw [op_alloc]
  have sn:stAV 2 (H0++[.cells [.str [],.int .i64 0]]) (.ptr H0.length 0) (.agg y.row)=some (H0++[.cells y.row]):=by
   have:=st_all (h:=H0++[Blk.cells [.str [],.int .i64 0]]) (l:=H0.length) (n:=2) (vs:=[.str [],.int .i64 0]) (us:=y.row) (by simp) rfl rfl (by omega) rfl;simpa [-stAV_ptr] using this
  have hp3:=hp2.more [.cells y.row];have ly:loadAV 2 true (H0++[.cells y.row]) (.ptr H0.length 0)=some (.agg y.row):=ld_all (l:=H0.length) (vs:=y.row) (by simp) rfl;have l0:loadAV 3 true (H0++[.cells y.row]) (.ptr 0 0)=some (.agg a.cells):=ldOrg _ (hp3.at rfl);have l1:loadAV 3 true (H0++[.cells y.row]) (.ptr 1 0)=some (.agg b.cells):=ldOrg _ (hp3.at rfl);have l3:loadAV 3 true (H0++[.cells y.row]) (.ptr 3 0)=some (.agg (unE a b).1.cells):=ldOrg _ (hp3.at rfl);have l4:loadAV 3 true (H0++[.cells y.row]) (.ptr 4 0)=some (.agg (byO a).cells):=ldOrg _ (hp3.at rfl);have l5:loadAV 3 true (H0++[.cells y.row]) (.ptr 5 0)=some (.agg (liO a).cells):=ldOrg _ (hp3.at rfl);obtain ⟨a1,a2,a3,a4⟩:=smO_of sa;obtain ⟨b1,b2,b3,b4⟩:=smO_of sb;obtain ⟨k1,k2,k3⟩:=okO_of a1;obtain ⟨x1,x2,x3⟩:=oValid_of va;obtain ⟨n1,n2⟩:=lin_ok sa va;obtain ⟨un0,unv,unh⟩:=un_valid va vb;have ra:=use_routes hR a1 y;have rb:=use_routes hR b1 y;have ru:=use_routes hR (okO_un sa sb) y;have rby:=use_routes hR (o:=byO a) (by simp [okO,byO,n1,show okL []=true from rfl]) y;have rli:=use_routes hR (o:=liO a) (by simp [okO,liO,k2,joinO_ok x1 x3 (by omega) (by omega),show okL []=true from rfl]) y;have hh:=use_has hH n1 y;rw [n2,Bool.and_true]at hh;have hcl:=fun st H=>use_hasI hC (routes_len (liO a) y) 1 st H
  obtain ⟨q1,q2,q3,q4⟩:=at_point va y;rw [q4]at hcl;have hall:∀ r:Int,(routesE (unE a b).1 y).contains r=((routesE a y).contains r||(routesE b y).contains r):=fun r=>by
   rw [routes_has unv,routes_has va,routes_has vb,unh];cases (r == 1||r == 2||r == 3) <;> simp
  have L3:=fun ks Q hk=>un_L3 (G:=G) (a:=a) (b:=b) (x:=x) (X:=X) (B:=.ptr H0.length 0) (T:=T) (N:=.int .i64 (P.length:Int)) (I:=.int .i64 (i:Int)) (v28:=.junk) (H:=H0++[.cells y.row]) hC (routes_len a y) (routes_len b y) (routes_len (unE a b).1 y) hall (ks:=ks) (Q:=Q) hk 3 1 rfl (Nat.le_refl _)
  have next:=un_L2 (T:=T) hR hC hH sa sb va vb hn P hP rest (i+1) X _ hyd (by omega) (hp3.cut (n:=n) hn (fr:=[(0,.agg a.cells),(1,.agg b.cells),(2,.agg x.row),(3,.ptr 0 0),(4,.ptr 1 0),(5,.ptr 2 0),(6,.bool false),(7,.ptr 3 0),(8,.int .i64 0),(9,.sl (spRows (linE a))),(10,.int .i64 0),(11,.ptr 4 0),(12,.int .i64 0),(13,.ptr 5 0),(14,.int .i64 0),(15,.ptr 6 0),(16,.int .i64 0),(17,X),(19,.junk),(21,.junk),(23,.junk),(24,.junk),(25,.junk),(26,.junk),(27,.junk),(28,.junk),(113,T),(114,.int .i64 6),(115,.int .i64 6),(119,.junk),(120,.junk),(121,.junk),(140,X),(141,.int .i64 (P.length:Int)),(142,.int .i64 ((i:Int)+1))]) ⟨17,by simp⟩)
  have la1:∀ H:Heap,lenAV H 1 (.sl ((routesE a y).map eI))=some (.int .i64 ((routesE a y).length:Int)):=fun H=>by simp [lenAV]
  have la5:∀ H:Heap,lenAV H 1 (.sl ((routesE (liO a) y).map eI))=some (.int .i64 ((routesE (liO a) y).length:Int)):=fun H=>by simp [lenAV]
  rw [q2]at rby
  have bb:∀ (v:Bool) st H,opV G st H (.eqB true) (some [.bool v,.bool v])=some (.bool false,H):=fun v st H=>by rw [opV_quiet rfl]; simp [evalPure]
  simp only [iRows]at L3 hcl;clear hall unh q2 hp hp2 hp3;generalize H0++[Blk.cells y.row]=H2 at *;generalize ((routesE a y).length:Int)=NA at *;generalize ((routesE (liO a) y).length:Int)=NL at *;generalize (routesE a y).map eI=RA at *;generalize (routesE b y).map eI=RB at *;generalize (routesE (unE a b).1 y).map eI=RU at *;generalize (routesE (liO a) y).map eI=RL at *;generalize spRows (linE a)=RN at *;generalize a.cells=CA at *;generalize b.cells=CB at *;generalize (unE a b).1.cells=CU at *;generalize (byO a).cells=CBY at *;generalize (liO a).cells=CL at *;generalize y.row=YR at *;generalize x.row=XR at *;generalize hasO (linE a) y=hA at *;simp [hq,ia,la,al,sn,ly,l0,l1,l3,ra,rb,ru,-loadAV,-stAV_ptr,-op_alloc];refine L3 _ _ (fun env=>?_)
  cases hA with
  | true=>
   have e1:eqB 1 1=true:=rfl;have e2:eqB 2 2=true:=rfl;have rr:(if true=true then [(2:Int)]else []).map eI=[[.int .i64 2]]:=rfl;rw [rr]at rby
   have i0:∀ H,iadrAV 1 H (.sl [[.int .i64 2]]) (.int .i64 0)=some (.fptr [.int .i64 2] 0):=fun H=>rfl
   have d0:∀ H,loadAV 1 false H (.fptr [.int .i64 2] 0)=some (.int .i64 2):=fun H=>rfl
   have lb1:∀ H:Heap,lenAV H 1 (.sl [[.int .i64 2]])=some (.int .i64 1):=fun H=>rfl
   simp [la1,la5,lb1,q1,q3,ly,l4,l5,hh,rby,rli,i0,d0,hcl,bb,hw,-loadAV,-lenAV];refine head_of ?_
   simpa [junkAll,Rs.q37] using next
  | false=>
   have e1:eqB 0 1=false:=rfl;have rr:(if false=true then [(2:Int)]else []).map eI=[]:=rfl;rw [rr]at rby
   have lb1:∀ H:Heap,lenAV H 1 (.sl [])=some (.int .i64 0):=fun H=>rfl
   simp [la1,la5,lb1,q1,q3,ly,l4,l5,hh,rby,rli,e1,hcl,bb,hw,-loadAV,-lenAV];refine head_of ?_
   simpa [junkAll,Rs.q37] using next
end Go.Proofs.YtbfcbkjemlgnpaaGreatDoor
namespace Go.Proofs.YtbfcbkjemlgnpaaGreatDoor
open Go.RowKit Go.IntWalk
def F_unions:List AV→Option AV
 | [.agg ca,.agg cb,.agg lr]=>match decOrg ca,decOrg cb,decLn lr with
  | some a,some b,some _=>if okO a=true∧okO b=true then some (.bool true)else none
  | _,_,_=>none
 | _=>none
theorem unions_ok{G:Gam}(hA:G Fn.q70=some (.pure F_awake))(hFw:G Fn.q51=some (.pure F_fewO))(hU:G Fn.q108=some (.pure F_oUn))(hT:G Fn.q89=some (.pure F_oThr))
  (hL:G Fn.origin_All=some (.pure F_oAll)) (hV:G Fn.q109=some (.pure F_oValid)) (hS:G Fn.q50=some (.pure F_sameO)) (hR:G Fn.q99=some (.pure F_routes)) (hC:G Fn.q31=some (.pure F_hasI)) (hH:G Fn.lineset_Has=some (.pure F_lHas)) :
  ∀ args r,F_unions args=some r→wpM G Mc.q37 (pureQ Rs.q37 r) [] (frInit Ks.q37 args) []:=by
 intro args r hF
 unfold F_unions at hF
 split at hF
 ·rename_i ca cb lr
  split at hF
  ·rename_i a b x ha hb hx
   split at hF
   ·rename_i hok
    injection hF with hF; subst hF
    obtain rfl:=decOrg_of ha;obtain rfl:=decOrg_of hb;obtain rfl:=decLn_of hx;obtain ⟨oa,ob_⟩:=hok;have b1:=fun st=>box_org (G:=G) a st []
    have b2:=fun st=>box_org (G:=G) b st [.cells a.cells]
    have b3:=fun st=>box_ln (G:=G) x st [.cells a.cells,.cells b.cells]
    have la:∀ tl:Heap,loadAV 3 true (.cells a.cells::tl) (.ptr 0 0)=some (.agg a.cells):=fun tl=>ldOrg _ rfl
    have lb:∀ tl:Heap,loadAV 3 true (.cells a.cells::.cells b.cells::tl) (.ptr 1 0)=some (.agg b.cells):=fun tl=>ldOrg _ rfl
    have lx:∀ tl:Heap,loadAV 2 true (.cells a.cells::.cells b.cells::.cells x.row::tl) (.ptr 2 0)=some (.agg x.row):=fun tl=>ld_all (l:=2) (vs:=x.row) rfl rfl
    have aw:=use_awake hA;have fa:=use_fewO hFw oa;have fb:=use_fewO hFw ob_;have va:=use_oValid hV oa;have vb:=use_oValid hV ob_;rw [wpM_go];simp at b1 b2 b3;cases c1:fewO a with
    | false=>
     rw [c1]at fa;generalize a.cells=CA at *;generalize b.cells=CB at *;generalize x.row=CX at *;simp [Mc.q37,Ks.q37,frInit,b1,b2,b3,la,aw,fa,pureQ,Rs.q37,-loadAV]
    | true=>
     rw [c1]at fa;cases c2:fewO b with
     | false=>
      rw [c2]at fb;generalize a.cells=CA at *;generalize b.cells=CB at *;generalize x.row=CX at *;simp [Mc.q37,Ks.q37,frInit,b1,b2,b3,la,lb,aw,fa,fb,pureQ,Rs.q37,-loadAV]
     | true=>
      rw [c2]at fb;cases c3:oValid a with
      | false=>
       rw [c3]at va;generalize a.cells=CA at *;generalize b.cells=CB at *;generalize x.row=CX at *;simp [Mc.q37,Ks.q37,frInit,b1,b2,b3,la,lb,aw,fa,fb,va,pureQ,Rs.q37,-loadAV]
      | true=>
       rw [c3]at va;cases c4:oValid b with
       | false=>
        rw [c4]at vb;generalize a.cells=CA at *;generalize b.cells=CB at *;generalize x.row=CX at *;simp [Mc.q37,Ks.q37,frInit,b1,b2,b3,la,lb,aw,fa,fb,va,vb,pureQ,Rs.q37,-loadAV]
       | true=>
        rw [c4]at vb;have sa:=V_few c1;have sb:=V_few c2;have u1:=use_un hU sa sb;have t2:=use_thr hT sa 2;have t3:=use_thr hT sa 3;have t1:=use_thr hT sa 1;have l1:=use_all hL sa;have so:=use_sameO hS oa;have e1:(unE a b).2=0:=(un_valid c3 c4).1;have e2:thrE a 2=(byO a,0):=by simp [thrE,c3,becE,byO]
        have e3:thrE a 3=(liO a,0):=by simp [thrE,c3,becE,liO]
        have e4:thrE a 1=(a,0):=by simp [thrE,c3,becE]
        have e5:allE a=(linE a,0):=by simp [allE,c3]
        rw [e1]at u1;rw [e2]at t2;rw [e3]at t3;rw [e4]at t1;rw [e5]at l1;simp only at u1 t1 t2 t3 l1;have hk:∀ l:List Sp,fewL l=true→l.length≤12:=fun l h=>by simp only [fewL,Bool.and_eq_true,decide_eq_true_eq]at h; exact h.1
        have f1:=c1;have f2:=c2;simp only [fewO,Bool.and_eq_true]at f1 f2;have hS:∀ l∈[a.inn,a.by_,a.lst,b.inn,b.by_,b.lst],l.length≤12:=fun l hl=>by
         simp only [List.mem_cons,List.not_mem_nil,or_false]at hl;rcases hl with rfl | rfl | rfl | rfl | rfl | rfl
         ·exact hk _ f1.1.1
         ·exact hk _ f1.1.2
         ·exact hk _ f1.2
         ·exact hk _ f2.1.1
         ·exact hk _ f2.1.2
         ·exact hk _ f2.2
        have h6:=ends6 _ hS;have L0:=fun ks Q hk=>un_L0 (G:=G) (a:=a) (b:=b) (u:=(unE a b).1) (x:=x) (S:=[a.inn,a.by_,a.lst,b.inn,b.by_,b.lst]) rfl hS (ks:=ks) (Q:=Q) (x::[a.inn,a.by_,a.lst,b.inn,b.by_,b.lst].flatMap endsO) hk _ 0 [x] (.tsl [x.row]) (HBU a b x (unE a b).1) rfl (by omega) rfl (by simp) ⟨⟨[],by simp⟩,.inl ⟨rfl,rfl⟩⟩
        have L2:=fun H X n hn hp=>un_L2 (G:=G) hR hC hH (x:=x) (T:=.tsl ([a.inn,a.by_,a.lst,b.inn,b.by_,b.lst].map setRow)) sa sb c3 c4 (n:=n) hn (x::[a.inn,a.by_,a.lst,b.inn,b.by_,b.lst].flatMap endsO) (by simp only [List.length_cons,List.length_nil]at h6 ⊢; omega) _ 0 X H rfl (by omega) hp
        have hlen:∀ H X P,Pts (HBU a b x (unE a b).1) H x X P→lenAV H 1 X=some (.int .i64 (P.length:Int)):=fun H X P hp=>hp.len
        have s3:stAV 3 [.cells a.cells,.cells b.cells,.cells x.row,.cells [.nils,.nils,.nils]] (.ptr 3 0) (.agg (unE a b).1.cells)=some [.cells a.cells,.cells b.cells,.cells x.row,.cells (unE a b).1.cells]:=stOrg (l:=3) rfl rfl;have s4:stAV 3 [.cells a.cells,.cells b.cells,.cells x.row,.cells (unE a b).1.cells,.cells [.nils,.nils,.nils]] (.ptr 4 0) (.agg (byO a).cells)=some [.cells a.cells,.cells b.cells,.cells x.row,.cells (unE a b).1.cells,.cells (byO a).cells]:=stOrg (l:=4) rfl rfl;have s5:stAV 3 [.cells a.cells,.cells b.cells,.cells x.row,.cells (unE a b).1.cells,.cells (byO a).cells,.cells [.nils,.nils,.nils]] (.ptr 5 0) (.agg (liO a).cells)=some [.cells a.cells,.cells b.cells,.cells x.row,.cells (unE a b).1.cells,.cells (byO a).cells,.cells (liO a).cells]:=stOrg (l:=5) rfl rfl;have s6:stAV 3 [.cells a.cells,.cells b.cells,.cells x.row,.cells (unE a b).1.cells,.cells (byO a).cells,.cells (liO a).cells,.cells [.nils,.nils,.nils]] (.ptr 6 0) (.agg a.cells)=some [.cells a.cells,.cells b.cells,.cells x.row,.cells (unE a b).1.cells,.cells (byO a).cells,.cells (liO a).cells,.cells a.cells]:=stOrg (l:=6) rfl rfl;have d6:loadAV 3 true [.cells a.cells,.cells b.cells,.cells x.row,.cells (unE a b).1.cells,.cells (byO a).cells,.cells (liO a).cells,.cells a.cells] (.ptr 6 0)=some (.agg a.cells):=ldOrg (l:=6) _ rfl;have pa0:∀ tl:Heap,loadAV 1 false (.cells a.cells::tl) (.ptr 0 0)=some (.sl (spRows a.inn)):=fun tl=>ld_cell (l:=0) rfl rfl
        have pa1:∀ tl:Heap,loadAV 1 false (.cells a.cells::tl) (.ptr 0 1)=some (.sl (spRows a.by_)):=fun tl=>ld_cell (l:=0) rfl rfl
        have pa2:∀ tl:Heap,loadAV 1 false (.cells a.cells::tl) (.ptr 0 2)=some (.sl (spRows a.lst)):=fun tl=>ld_cell (l:=0) rfl rfl
        have pb0:∀ tl:Heap,loadAV 1 false (.cells a.cells::.cells b.cells::tl) (.ptr 1 0)=some (.sl (spRows b.inn)):=fun tl=>ld_cell (l:=1) rfl rfl
        have pb1:∀ tl:Heap,loadAV 1 false (.cells a.cells::.cells b.cells::tl) (.ptr 1 1)=some (.sl (spRows b.by_)):=fun tl=>ld_cell (l:=1) rfl rfl
        have pb2:∀ tl:Heap,loadAV 1 false (.cells a.cells::.cells b.cells::tl) (.ptr 1 2)=some (.sl (spRows b.lst)):=fun tl=>ld_cell (l:=1) rfl rfl
        have bs1:∀ st h,opV G st h (.bsl false 2) (some [.agg x.row])=some (.tsl [x.row],h):=fun st h=>by rw [op_bsl rfl]; rfl
        have bs6:∀ (c d e f g i:List (List AV)) st h,opV G st h (.bsl false 1) (some [.sl c,.sl d,.sl e,.sl f,.sl g,.sl i])=some (.tsl [[.sl c],[.sl d],[.sl e],[.sl f],[.sl g],[.sl i]],h):=fun c d e f g i st h=>by rw [op_bsl rfl]; rfl
        have q00:eqB 0 0=true:=rfl;have lt6:∀ (c d e f g i:List AV) (H:Heap),lenAV H 1 (.tsl [c,d,e,f,g,i])=some (.int .i64 6):=fun c d e f g i H=>rfl
        simp only [List.map_cons,List.map_nil,setRow]at L0 L2;generalize hPP:(x::[a.inn,a.by_,a.lst,b.inn,b.by_,b.lst].flatMap endsO)=PP at *;have h7:∀ H X P,Pts (HBU a b x (unE a b).1) H x X P→7≤H.length:=fun H X P hp=>by obtain ⟨⟨T,rfl⟩,_⟩:=hp; simp
        simp only [HBU]at L0 L2 hlen h7;clear hPP hS h6 f1 f2 ob_ oa hk;generalize Pts [.cells a.cells,.cells b.cells,.cells x.row,.cells (unE a b).1.cells,.cells (byO a).cells,.cells (liO a).cells,.cells a.cells]=PT at *;generalize spRows (linE a)=RN at *;generalize spRows a.inn=R1 at *;generalize spRows a.by_=R2 at *;generalize spRows a.lst=R3 at *;generalize spRows b.inn=R4 at *;generalize spRows b.by_=R5 at *;generalize spRows b.lst=R6 at *;generalize (unE a b).1.cells=CU at *;generalize (byO a).cells=CBY at *;generalize (liO a).cells=CL at *;generalize a.cells=CA at *;generalize b.cells=CB at *;simp [Mc.q37,Ks.q37,frInit,b1,b2,b3,la,lb,lx,aw,fa,fb,va,vb,u1,l1,t1,t2,t3,so,s3,s4,s5,s6,d6,pa0,pa1,pa2,pb0,pb1,pb2,bs1,bs6,lt6,-loadAV,-stAV_ptr,-op_bsl,-lenAV];refine L0 _ _ (fun env H X hp=>?_)
        have hl:=hlen H X _ hp;simp [hl,-lenAV];exact L2 H X _ (h7 H X _ hp) hp
   ·cases hF
  ·cases hF
 ·cases hF
end Go.Proofs.YtbfcbkjemlgnpaaGreatDoor
