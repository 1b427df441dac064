/- Running the small language: for arguments that are known whole,a function's answer is computed,and nothing is walked. Running the small language where there is more than one way: maps that are range -/
import Derived.Test.YtpefhfiehfkocaaGreatDoorAm8
namespace Go.Proofs.YtpefhfiehfkocaaGreatDoor
open Go.RowKit
mutual
def avEq:AV→AV→Bool
 | .bool a,.bool b=>a == b
 | .int k a,.int k' b=>decide (k=k')&&decide (a=b)
 | .str s,.str t=>decide (s=t)
 | .agg a,.agg b=>avEqL a b
 | .tup a,.tup b=>avEqL a b
 | .sl a,.sl b=>avEqR a b
 | .tsl a,.tsl b=>avEqR a b
 | .nils,.nils=>true
 | .own a b c,.own a' b' c'=>decide (a=a')&&decide (b=b')&&decide (c=c')
 | .ptr a b,.ptr a' b'=>decide (a=a')&&decide (b=b')
 | .fptr r a,.fptr r' a'=>avEqL r r'&&decide (a=a')
 | .eptr a b c d,.eptr a' b' c' d'=>decide (a=a')&&decide (b=b')&&decide (c=c')&&decide (d=d')
 | .gptr a b,.gptr a' b'=>decide (a=a')&&decide (b=b')
 | .nilp,.nilp=>true
 | .map a,.map b=>decide (a=b)
 | .nilm,.nilm=>true
 | .fn f a,.fn g b=>decide (f=g)&&avEqL a b
 | .mth f a,.mth g b=>decide (f=g)&&avEq a b
 | .nilf,.nilf=>true
 | .iface t a,.iface u b=>decide (t=u)&&avEq a b
 | .nili,.nili=>true
 | .junk,.junk=>true
 | _,_=>false
def avEqL:List AV→List AV→Bool
 | [],[]=>true
 | a::as,b::bs=>avEq a b&&avEqL as bs
 | _,_=>false
def avEqR:List (List AV)→List (List AV)→Bool
 | [],[]=>true
 | a::as,b::bs=>avEqL a b&&avEqR as bs
 | _,_=>false
end
mutual
theorem avEq_eq:∀ (a b:AV),avEq a b=true→a=b
 | .bool a,b,h=>by cases b <;> simp_all [avEq]
 | .int k a,b,h=>by cases b <;> simp_all [avEq]
 | .str s,b,h=>by cases b <;> simp_all [avEq]
 | .agg a,b,h=>by
  cases b <;> simp only [avEq,Bool.false_eq_true]at h
  rw [avEqL_eq a _ h]
 | .tup a,b,h=>by
  cases b <;> simp only [avEq,Bool.false_eq_true]at h
  rw [avEqL_eq a _ h]
 | .sl a,b,h=>by
  cases b <;> simp only [avEq,Bool.false_eq_true]at h
  rw [avEqR_eq a _ h]
 | .tsl a,b,h=>by
  cases b <;> simp only [avEq,Bool.false_eq_true]at h
  rw [avEqR_eq a _ h]
 | .nils,b,h=>by cases b <;> simp_all [avEq]
 | .own _ _ _,b,h=>by cases b <;> simp_all [avEq]
 | .win _ _ _ _,b,h=>by cases b <;> simp_all [avEq]
 | .ptr _ _,b,h=>by cases b <;> simp_all [avEq]
 | .fptr r _,b,h=>by
  cases b <;> simp only [avEq,Bool.false_eq_true,Bool.and_eq_true,decide_eq_true_eq]at h
  rw [avEqL_eq r _ h.1,h.2]
 | .eptr _ _ _ _,b,h=>by cases b <;> simp_all [avEq]
 | .gptr _ _,b,h=>by cases b <;> simp_all [avEq]
 | .nilp,b,h=>by cases b <;> simp_all [avEq]
 | .map _,b,h=>by cases b <;> simp_all [avEq]
 | .nilm,b,h=>by cases b <;> simp_all [avEq]
 | .fn _ a,b,h=>by
  cases b <;> simp only [avEq,Bool.false_eq_true,Bool.and_eq_true,decide_eq_true_eq]at h
  rw [avEqL_eq a _ h.2,h.1]
 | .mth _ a,b,h=>by
  cases b <;> simp only [avEq,Bool.false_eq_true,Bool.and_eq_true,decide_eq_true_eq]at h
  rw [avEq_eq a _ h.2,h.1]
 | .nilf,b,h=>by cases b <;> simp_all [avEq]
 | .iface _ a,b,h=>by
  cases b <;> simp only [avEq,Bool.false_eq_true,Bool.and_eq_true,decide_eq_true_eq]at h
  rw [avEq_eq a _ h.2,h.1]
 | .nili,b,h=>by cases b <;> simp_all [avEq]
 | .yld _,b,h=>by cases b <;> simp_all [avEq]
 | .junk,b,h=>by cases b <;> simp_all [avEq]
theorem avEqL_eq:∀ (a b:List AV),avEqL a b=true→a=b
 | [],b,h=>by cases b <;> simp_all [avEqL]
 | a::as,b,h=>by
  cases b with
  | nil=>simp [avEqL]at h
  | cons b bs=>
   simp only [avEqL,Bool.and_eq_true]at h;rw [avEq_eq a b h.1,avEqL_eq as bs h.2]
theorem avEqR_eq:∀ (a b:List (List AV)),avEqR a b=true→a=b
 | [],b,h=>by cases b <;> simp_all [avEqR]
 | a::as,b,h=>by
  cases b with
  | nil=>simp [avEqR]at h
  | cons b bs=>
   simp only [avEqR,Bool.and_eq_true]at h;rw [avEqL_eq a b h.1,avEqR_eq as bs h.2]
end
def seesX(G:Gam)(m:MI)(env fr:List (Nat×AV))(v:AV)(h:Heap):Bool:=
 !m.o.loud&&match stepV G true m (getT env fr) h with
  | some (u,_)=>avEq u v
  | none=>false
theorem step_look{G:Gam}{m:MI}{e:Nat→Option AV}{h h':Heap}{v:AV}(hl:m.o.loud=false)(hs:stepV G true m e h=some (v,h')):h'=h:=by
 unfold stepV at hs
 simp only [hl,Bool.not_false,Bool.and_true,if_true]at hs
 split at hs
 ·split at hs
  ·cases hv:evalStill G h m.o _ with
   | none=>rw [hv]at hs; cases hs
   | some u=>rw [hv]at hs; simp at hs; exact hs.2.symm
  ·cases hs
 ·split at hs
  ·split at hs
   ·split at hs
    ·cases hv:evalStill G h m.o _ with
     | none=>rw [hv]at hs; cases hs
     | some u=>rw [hv]at hs; simp at hs; exact hs.2.symm
    ·cases hs
   ·simp at hs; exact hs.2.symm
  ·simp at hs; exact hs.2.symm
  ·cases hs
theorem sees_eq{G:Gam}{m:MI}{env fr:List (Nat×AV)}{v:AV}{h:Heap}(hs:seesX G m env fr v h=true):stepV G true m (getT env fr) h=some (v,h):=by
 unfold seesX at hs
 simp only [Bool.and_eq_true,Bool.not_eq_true']at hs
 obtain ⟨hl,hs⟩:=hs
 split at hs
 ·rename_i u h' hv
  rw [hv,avEq_eq _ _ hs,step_look hl hv]
 ·cases hs
structure PX where
 n:Nat
 m:MI
 env:List (Nat×AV)
 fr:List (Nat×AV)
 v:AV
def PX.pd(G:Gam)(x:PX):Nat×(Heap→Prop):=(x.n,fun h=>stepV G true x.m (getT x.env x.fr) h=some (x.v,h))
def dueX(G:Gam)(h:Heap):List PX→Bool
 | []=>true
 | x::r=>(x.n != 0||seesX G x.m x.env x.fr x.v h)&&dueX G h r
def nextX:List PX→List PX
 | []=>[]
 | ⟨0,_,_,_,_⟩::r=>nextX r
 | ⟨n+1,m,e,f,v⟩::r=>⟨n,m,e,f,v⟩::nextX r
def newX(m:MI)(env fr:List (Nat×AV))(v:AV):List Nat→List PX
 | []=>[]
 | d::r=>⟨d,m,env,fr,v⟩::newX m env fr v r
theorem due_sound{G:Gam}{h:Heap}:∀ {l:List PX},dueX G h l=true→pdDue h (l.map (PX.pd G))
 | [],_=>trivial
 | ⟨0,m,e,f,v⟩::r,hd=>by
  simp only [dueX,Bool.and_eq_true,Bool.or_eq_true,bne_iff_ne,ne_eq,not_true_eq_false,false_or]at hd;exact ⟨sees_eq hd.1,due_sound hd.2⟩
 | ⟨n+1,m,e,f,v⟩::r,hd=>by
  simp only [dueX,Bool.and_eq_true]at hd;exact due_sound (l:=r) hd.2
theorem next_map{G:Gam}:∀ {l:List PX},pdNext (l.map (PX.pd G))=(nextX l).map (PX.pd G)
 | []=>rfl
 | ⟨0,_,_,_,_⟩::r=>next_map (l:=r)
 | ⟨_+1,_,_,_,_⟩::r=>congrArg (_::·) (next_map (l:=r))
theorem new_map{G:Gam}{m:MI}{env fr:List (Nat×AV)}{v:AV}:∀ {l:List Nat},pdNew G m env fr v l=(newX m env fr v l).map (PX.pd G)
 | []=>rfl
 | _::r=>congrArg (_::·) (new_map (l:=r))
def runX(G:Gam)(h0:Heap):List ME→List PX→List (Nat×AV)→List (Nat×AV)→Heap→Option (List (Nat×AV)×List (Nat×AV)×Heap)
 | [],pd,env,fr,h=>if dueX G h pd then some (env,fr,h)else none
 | (e,ls,m)::is,pd,env,fr,h=>if dueX G h pd then (match stepV G true m (getT env fr) h with
  | none=>none
  | some (v,h')=>if !e||seesX G m env fr v h0 then (match m.dst with
   | none=>runX G h0 is (newX m env fr v ls++nextX pd) env fr h'
   | some t=>if m.kept then runX G h0 is (newX m env fr v ls++nextX pd) env (upd t v fr) h' else runX G h0 is (newX m env fr v ls++nextX pd) ((t,v)::env) fr h')else none)else none
theorem runX_sound{G:Gam}{h0:Heap}{Q:List (Nat×AV)→List (Nat×AV)→Heap→Prop}:∀ {is:List ME} {pd:List PX} {env fr env' fr':List (Nat×AV)} {h h':Heap},runX G h0 is pd env fr h=some (env',fr',h')→Q env' fr' h'→runP G h0 is Q (pd.map (PX.pd G)) env fr h
 | [],pd,env,fr,env',fr',h,h',hr,hq=>by
  simp only [runX]at hr;split at hr
  ·rename_i hd
   simp only [Option.some.injEq,Prod.mk.injEq]at hr;obtain ⟨rfl,rfl,rfl⟩:=hr;exact ⟨due_sound hd,hq⟩
  ·cases hr
 | (e,ls,m)::is,pd,env,fr,env',fr',h,h',hr,hq=>by
  simp only [runX]at hr;split at hr
  ·rename_i hd
   refine ⟨due_sound hd,?_⟩
   split at hr
   ·cases hr
   ·rename_i v h1 hv
    split at hr
    ·rename_i he
     rw [hv];refine ⟨fun e1=>?_,?_⟩
     ·subst e1
      simp only [Bool.not_true,Bool.false_or]at he;have hs:m.o.loud=false:=by
       unfold seesX at he;simp only [Bool.and_eq_true,Bool.not_eq_true']at he;exact he.1
      exact sees_eq he
     ·rw [new_map,next_map,← List.map_append]
      split at hr
      ·rename_i hm; simp only [hm]; exact runX_sound hr hq
      ·rename_i t hm
       simp only [hm];split at hr
       ·rename_i hk; rw [if_pos hk]; exact runX_sound hr hq
       ·rename_i hk; rw [if_neg hk]; exact runX_sound hr hq
    ·cases hr
  ·cases hr
abbrev StX:=MX×List (Nat×AV)×List (Nat×AV)×Heap
abbrev TX:=List (Nat×AV)→List (Nat×AV)→Heap→Option StX
def loopX(T:TX)(dead:List Nat)(n:Nat):Nat→List (Nat×AV)→Heap→Option StX
 | 0,_,_=>none
 | N+1,fr,h=>match T [] (junkAll dead fr) (truncD dead n (junkAll dead fr) h)with
  | some (.normal,_,fr1,h1)=>loopX T dead n N fr1 h1
  | r=>r
def lpIs(h:Heap)(k:Nat)(b:Bool):Bool:=match h[k]? with
 | some (.lp c .normal)=>c == b
 | _=>false
theorem lpIs_eq{h:Heap}{k:Nat}{b:Bool}(hl:lpIs h k b=true):h[k]?=some (.lp b .normal):=by
 unfold lpIs at hl
 split at hl
 ·rename_i c hc; rw [hc]; simp at hl; rw [hl]
 ·cases hl
def roundX(Ta Tb:TX)(ps:List Nat)(fr:List (Nat×AV))(k:Nat)(args:List AV)(h:Heap):Option (MX×Heap):=
 if lpIs h k false&&decide (args.length=ps.length)then (match Ta [] (putPs ps args fr) h with
  | some (.normal,_,fr1,h1)=>if lpIs h1 k false then (match Tb [] fr1 (h1.set k (.lp true .normal))with
   | some (x,_,_,h2)=>if lpIs h2 k true then some (x,h2.set k (.lp false x))else none
   | none=>none)else none
  | _=>none)else none
def rgX(F:RdF)(T:List AV→Heap→Option (MX×Heap))(k:Nat):Nat→Nat→Heap→Option (MX×Heap)
 | 0,_,_=>none
 | N+1,j,h=>match F j h with
  | none=>none
  | some (none,h1)=>if lpIs h1 k false then some (.normal,h1.set k .dead)else none
  | some (some args,h1)=>match T args h1 with
   | some (.normal,h2)=>rgX F T k N (j+1) h2
   | some (x,h2)=>some (x,h2.set k .dead)
   | none=>none
def regX:R→Option StX
 | .ok env fr h=>some (.normal,env,fr,h)
 | .bad=>none
def rgeX:Option (List (Nat×AV)×List (Nat×AV)×Heap)→Option StX
 | some (env,fr,h)=>some (.normal,env,fr,h)
 | none=>none
def seqX(r:Option StX)(k:TX):Option StX:=match r with
 | some (.normal,env,fr,h)=>k env fr h
 | r=>r
def iteX(c:Option AV)(a b:TX)(env fr:List (Nat×AV))(h:Heap):Option StX:=match c with
 | some (.bool true)=>a env fr h
 | some (.bool false)=>b env fr h
 | _=>none
def blkX(id:Nat)(r:Option StX):Option StX:=match r with
 | some (.exit j,env,fr,h)=>some (if j=id then .normal else .exit j,env,fr,h)
 | r=>r
def rgfX(G:Gam)(N:Nat)(g:Option AV)(ps:List Nat)(a b:TX)(env fr:List (Nat×AV))(h:Heap):Option StX:=match g with
 | some (.fn f caps)=>(match G f with
  | some (.iter F)=>match rgX (F caps (h++[.lp false .normal])) (roundX a b ps fr h.length) h.length N 0 (h++[.lp false .normal])with
   | some (x,h')=>some (x,env,fr,h')
   | none=>none
  | _=>none)
 | _=>none
def rgnX(G:Gam)(g:Option AV)(dst:Option Nat)(kept:Bool)(is:List MI)(fr:List (Nat×AV))(h:Heap):Option StX:=match g with
 | some (.ptr l 0)=>(match mnxAV h l with
  | some [r]=>regX (run G false is (bindR dst kept [] fr (some r)))
  | _=>none)
 | _=>none
def runC(G:Gam)(N:Nat):MC→TX
 | .skip=>fun env fr h=>some (.normal,env,fr,h)
 | .reg is=>fun _ fr h=>regX (run G false is (.ok [] fr h))
 | .rgd is=>fun _ fr h=>regX (run G true is (.ok [] fr h))
 | .rge is=>fun _ fr h=>rgeX (runX G h is [] [] fr h)
 | .seq a b=>fun env fr h=>seqX (runC G N a env fr h) (runC G N b)
 | .ite c a b=>fun env fr h=>iteX (getA (getT env fr) c) (runC G N a) (runC G N b) env fr h
 | .blk id a=>fun env fr h=>blkX id (runC G N a env fr h)
 | .loop dead a=>fun _ fr h=>loopX (runC G N a) dead h.length N fr h
 | .exit id=>fun env fr h=>some (.exit id,env,fr,h)
 | .ret=>fun env fr h=>some (.ret,env,fr,h)
 | .rgf g ps a b=>fun env fr h=>rgfX G N (getA (getT env fr) g) ps (runC G N a) (runC G N b) env fr h
 | .rgn g dst kept is=>fun _ fr h=>rgnX G (getA (getT [] fr) g) dst kept is fr h
 | .both _ _=>fun _ _ _=>none
 | .bad=>fun _ _ _=>none
theorem loopX_sound{T:MPost→List (Nat×AV)→List (Nat×AV)→Heap→Prop}{R:TX}(hT:∀ {Q:MPost} {env fr h x env' fr' h'},R env fr h=some (x,env',fr',h')→Q x env' fr' h'→T Q env fr h)
  {dead:List Nat} {n:Nat} {Q:MPost}:∀ (N:Nat) {env fr:List (Nat×AV)} {h:Heap} {x:MX} {env' fr':List (Nat×AV)} {h':Heap},loopX R dead n N fr h=some (x,env',fr',h')→Q x env' fr' h'→roundsM T dead n Q N env fr h
 | 0,_,_,_,_,_,_,_,hl,_=>by cases hl
 | N+1,env,fr,h,x,env',fr',h',hl,hq=>by
  simp only [loopX]at hl;simp only [roundsM];split at hl
  ·rename_i e1 f1 h1 hr
   exact hT hr (by simp only [seqQ]; exact loopX_sound hT N hl hq)
  ·rename_i hne
   refine hT hl ?_
   cases x with
   | normal=>exact absurd hl (hne _ _ _)
   | exit i=>exact hq
   | ret=>exact hq
theorem roundX_sound{Ta Tb:MPost→List (Nat×AV)→List (Nat×AV)→Heap→Prop}{Ra Rb:TX}(ha:∀ {Q:MPost} {env fr h x env' fr' h'},Ra env fr h=some (x,env',fr',h')→Q x env' fr' h'→Ta Q env fr h)
  (hb:∀ {Q:MPost} {env fr h x env' fr' h'},Rb env fr h=some (x,env',fr',h')→Q x env' fr' h'→Tb Q env fr h) {ps:List Nat} {fr:List (Nat×AV)} {k:Nat} {args:List AV} {h h':Heap} {x:MX} {K:MX→Heap→Prop}
  (hr:roundX Ra Rb ps fr k args h=some (x,h')) (hk:K x h'):roundM Ta Tb ps fr k args h K:=by
 unfold roundX at hr
 split at hr
 ·rename_i h0
  simp only [Bool.and_eq_true,decide_eq_true_eq]at h0;refine ⟨lpIs_eq h0.1,h0.2,?_⟩
  split at hr
  ·rename_i e1 f1 h1 hra
   split at hr
   ·rename_i hl1
    split at hr
    ·rename_i y e2 f2 h2 hrb
     split at hr
     ·rename_i hl2
      simp only [Option.some.injEq,Prod.mk.injEq]at hr;obtain ⟨rfl,rfl⟩:=hr;exact ha hra ⟨lpIs_eq hl1,hb hrb ⟨lpIs_eq hl2,hk⟩⟩
     ·cases hr
    ·cases hr
   ·cases hr
  ·cases hr
 ·cases hr
theorem rgX_sound{F:RdF}{T:List AV→Heap→(MX→Heap→Prop)→Prop}{R:List AV→Heap→Option (MX×Heap)}(hT:∀ {args h x h'} {K:MX→Heap→Prop},R args h=some (x,h')→K x h'→T args h K){k:Nat}{Q:MX→Heap→Prop} :
  ∀ (N j:Nat) {h:Heap} {x:MX} {h':Heap},rgX F R k N j h=some (x,h')→Q x h'→rgM F T k Q N j h
 | 0,_,_,_,_,hr,_=>by cases hr
 | N+1,j,h,x,h',hr,hq=>by
  simp only [rgX]at hr;simp only [rgM];split at hr
  ·cases hr
  ·rename_i h1 hf
   simp only [hf];split at hr
   ·rename_i hl
    simp only [Option.some.injEq,Prod.mk.injEq]at hr;obtain ⟨rfl,rfl⟩:=hr;exact ⟨lpIs_eq hl,hq⟩
   ·cases hr
  ·rename_i args h1 hf
   simp only [hf];split at hr
   ·rename_i h2 hm
    exact hT hm (rgX_sound hT N (j+1) hr hq)
   ·rename_i y h2 hne hm
    simp only [Option.some.injEq,Prod.mk.injEq]at hr;obtain ⟨rfl,rfl⟩:=hr;refine hT hm ?_
    cases y with
    | normal=>simp at hne
    | exit i=>exact hq
    | ret=>exact hq
   ·cases hr
theorem runC_sound{G:Gam}{N:Nat}:∀ (c:MC) {Q:MPost} {env fr:List (Nat×AV)} {h:Heap} {x:MX} {env' fr':List (Nat×AV)} {h':Heap},runC G N c env fr h=some (x,env',fr',h')→Q x env' fr' h'→wpM G c Q env fr h
 | .skip,Q,env,fr,h,x,env',fr',h',hr,hq=>by
  simp only [runC,Option.some.injEq,Prod.mk.injEq]at hr; obtain ⟨rfl,rfl,rfl,rfl⟩:=hr; exact hq
 | .reg is,Q,env,fr,h,x,env',fr',h',hr,hq=>by
  simp only [runC,regX]at hr;simp only [wpM];split at hr
  ·rename_i hk; simp only [Option.some.injEq,Prod.mk.injEq]at hr; obtain ⟨rfl,rfl,rfl,rfl⟩:=hr; rw [hk]; exact hq
  ·cases hr
 | .rgd is,Q,env,fr,h,x,env',fr',h',hr,hq=>by
  simp only [runC,regX]at hr;simp only [wpM];split at hr
  ·rename_i hk; simp only [Option.some.injEq,Prod.mk.injEq]at hr; obtain ⟨rfl,rfl,rfl,rfl⟩:=hr; rw [hk]; exact hq
  ·cases hr
 | .rge is,Q,env,fr,h,x,env',fr',h',hr,hq=>by
  simp only [runC,rgeX]at hr;simp only [wpM];split at hr
  ·rename_i hk; simp only [Option.some.injEq,Prod.mk.injEq]at hr; obtain ⟨rfl,rfl,rfl,rfl⟩:=hr
   exact runX_sound (pd:=[]) hk hq
  ·cases hr
 | .seq a b,Q,env,fr,h,x,env',fr',h',hr,hq=>by
  simp only [runC,seqX]at hr;simp only [wpM];split at hr
  ·rename_i e1 f1 h1 ha
   exact runC_sound a ha (by simp only [seqQ]; exact runC_sound b hr hq)
  ·rename_i hne
   refine runC_sound a hr ?_
   cases x with
   | normal=>exact absurd hr (hne _ _ _)
   | exit i=>exact hq
   | ret=>exact hq
 | .ite c a b,Q,env,fr,h,x,env',fr',h',hr,hq=>by
  simp only [runC,iteX]at hr;simp only [wpM];split at hr
  ·rename_i hc; rw [hc]; exact runC_sound a hr hq
  ·rename_i hc; rw [hc]; exact runC_sound b hr hq
  ·cases hr
 | .blk id a,Q,env,fr,h,x,env',fr',h',hr,hq=>by
  simp only [runC,blkX]at hr;simp only [wpM];split at hr
  ·rename_i j e1 f1 h1 ha
   simp only [Option.some.injEq,Prod.mk.injEq]at hr; obtain ⟨rfl,rfl,rfl,rfl⟩:=hr;refine runC_sound a ha ?_
   simp only [blkQ];split <;> rename_i he
   ·rw [if_pos he]at hq; exact hq
   ·rw [if_neg he]at hq; exact hq
  ·rename_i hne
   refine runC_sound a hr ?_
   cases x with
   | normal=>exact hq
   | exit i=>exact absurd hr (hne _ _ _ _)
   | ret=>exact hq
 | .loop dead a,Q,env,fr,h,x,env',fr',h',hr,hq=>by
  simp only [runC]at hr;simp only [wpM];exact ⟨N,loopX_sound (T:=wpM G a) (fun hr hq=>runC_sound a hr hq) N hr hq⟩
 | .exit id,Q,env,fr,h,x,env',fr',h',hr,hq=>by
  simp only [runC,Option.some.injEq,Prod.mk.injEq]at hr; obtain ⟨rfl,rfl,rfl,rfl⟩:=hr; exact hq
 | .ret,Q,env,fr,h,x,env',fr',h',hr,hq=>by
  simp only [runC,Option.some.injEq,Prod.mk.injEq]at hr; obtain ⟨rfl,rfl,rfl,rfl⟩:=hr; exact hq
 | .rgf g ps a b,Q,env,fr,h,x,env',fr',h',hr,hq=>by
  simp only [runC,rgfX]at hr;simp only [wpM];split at hr
  ·rename_i f caps hg
   rw [hg];dsimp only;split at hr
   ·rename_i F hF
    rw [hF];split at hr
    ·rename_i y h1 hk
     simp only [Option.some.injEq,Prod.mk.injEq]at hr; obtain ⟨rfl,rfl,rfl,rfl⟩:=hr;exact ⟨N,rgX_sound (T:=roundM (wpM G a) (wpM G b) ps fr h.length) (fun hr hq=>roundX_sound (Ta:=wpM G a) (Tb:=wpM G b) (fun hr hq=>runC_sound a hr hq) (fun hr hq=>runC_sound b hr hq) hr hq) N 0 hk hq⟩
    ·cases hr
   ·cases hr
  ·cases hr
 | .rgn g dst kept is,Q,env,fr,h,x,env',fr',h',hr,hq=>by
  simp only [runC,rgnX]at hr;simp only [wpM];split at hr
  ·rename_i l hg
   rw [hg];split at hr
   ·rename_i r hm
    have key:(match mnxAV h l with
     | some alts=>∀ r∈alts,match run G false is (bindR dst kept [] fr (some r))with
      | .ok env' fr' h'=>Q .normal env' fr' h'
      | .bad=>False
     | none=>False):=by
     rw [hm];intro r' hr';obtain rfl:=List.mem_singleton.1 hr';unfold regX at hr;split at hr
     ·rename_i hk; simp only [Option.some.injEq,Prod.mk.injEq]at hr; obtain ⟨rfl,rfl,rfl,rfl⟩:=hr; first | exact hq | (rw [hk]; exact hq)
     ·cases hr
    exact key
   ·cases hr
  ·cases hr
 | .both a b,Q,env,fr,h,x,env',fr',h',hr,hq=>by cases hr
 | .bad,Q,env,fr,h,x,env',fr',h',hr,hq=>by cases hr
structure FE where
 ks:List Nat
 ow:List Nat
 dl:List (List Nat)
 kind:Nat
 deriving Inhabited
def fin(x:Option StX)(rs:List RV):Option (AV×Heap):=match x with
 | some (.exit _,_,_,_)=>none
 | some (_,env,fr,h)=>(resAV (getT env fr) h rs).map fun v=>(v,h)
 | none=>none
def leaveX(n:Nat)(v:AV)(h:Heap):Option Heap:=
 if decide (n≤h.length)&&low n v&&lowH n (h.take n)then some (h.take n)
 else if decide (n≤h.length)&&low h.length v&&lowH h.length h then some h else none
theorem leaveX_ok{n:Nat}{rs:List RV}{e:Nat→Option AV}{v:AV}{h h':Heap}(hv:resAV e h rs=some v)(hl:leaveX n v h=some h'):LeaveOK n rs e h v h':=by
 unfold leaveX at hl
 split at hl
 ·rename_i hc
  simp only [Bool.and_eq_true,decide_eq_true_eq]at hc;injection hl with hl; subst hl
  have hn:(h.take n).length=n:=by simp; omega
  refine ⟨hv,by omega,⟨by simp; omega,fun l b hb=>.inr ?_⟩,by rw [hn]; exact hc.1.2,by rw [hn]; exact hc.2⟩
  rw [List.getElem?_take]at hb;split at hb
  ·exact hb
  ·cases hb
 ·split at hl
  ·rename_i hc
   simp only [Bool.and_eq_true,decide_eq_true_eq]at hc;injection hl with hl; subst hl
   exact ⟨hv,hc.1.1,⟨Nat.le_refl _,fun l b hb=>.inr hb⟩,hc.1.2,hc.2⟩
  ·cases hl
structure DfE where
 is0:List MI
 m1:MI
 g:FuncId
 gks:List Nat
 gis:List MI
structure Ent where
 mc:MC
 ks:List Nat
 rs:List RV
 kind:Nat
 df:Option DfE
def entryD(P:Program)(gv:Gv)(T:FuncId→Option FE)(e:FE)(n:Nat)(rs:List RV)(c:Code):Option Ent:=
 match splitD c with
 | some (ops0,ops1,o1,t,g,_,rest)=>(match T g,P.funcs[g]? with
  | some eg,some gn=>(match gn.body with
   | some gc=>(match regionOf gc with
    | some gops=>if !(e.ks.contains t)&&gn.results.toList.isEmpty&&(eg.ks.all fun k=>decide (k<gn.ntmps))&&entersB P g&&(compMI P gv e.ks n e.ow ops1 o1).o.quiet then
      some ⟨(compC P gv e.ks n e.ow rest e.dl).1,e.ks,rs,4,some ⟨compReg P gv e.ks n e.ow ops0,compMI P gv e.ks n e.ow ops1 o1,g,eg.ks,compReg P gv eg.ks gn.ntmps eg.ow gops⟩⟩else none
    | none=>none)
   | none=>none)
  | _,_=>none)
 | none=>none
def entry(P:Program)(gv:Gv)(T:FuncId→Option FE)(f:FuncId):Option Ent:=
 match T f with
 | none=>none
 | some e=>match P.funcs[f]? with
  | none=>none
  | some fn=>match fn.body with
   | none=>none
   | some c=>match compRVs P fn.results.toList with
    | none=>none
    | some rs=>if (e.ks.all fun k=>decide (k<fn.ntmps))&&entersB P f then (if e.kind=4 then entryD P gv T e fn.ntmps rs c else some ⟨(compC P gv e.ks fn.ntmps e.ow c e.dl).1,e.ks,rs,e.kind,none⟩)else none
theorem stepV_quiet{G:Gam}{m:MI}{e:Nat→Option AV}{h h':Heap}{v:AV}(hq:m.o.quiet=true)(hs:stepV G false m e h=some (v,h')):h'=h:=by
 have ha:∀ vs,evalAll G h m.o vs=some (v,h')→h'=h:=fun vs hv=>by
  have he:evalAll G h m.o vs=evalAO G h m.o vs:=by
   generalize m.o=o at hq;cases o <;> first | rfl | cases hq
  rw [he,evalAO,if_pos hq]at hv;split at hv
  ·injection hv with hv; injection hv with _ hv; exact hv.symm
  ·cases hv
 unfold stepV at hs
 simp only [Bool.false_and,Bool.false_eq_true,if_false]at hs
 split at hs
 ·split at hs
  ·exact ha _ hs
  ·cases hs
 ·split at hs
  ·split at hs
   ·split at hs
    ·exact ha _ hs
    ·cases hs
   ·injection hs with hs; injection hs with _ hs; exact hs.symm
  ·injection hs with hs; injection hs with _ hs; exact hs.symm
  ·cases hs
end Go.Proofs.YtpefhfiehfkocaaGreatDoor
namespace Go.Proofs.YtpefhfiehfkocaaGreatDoor
open Go.RowKit
def esEq:List (AV×AV)→List (AV×AV)→Bool
 | [],[]=>true
 | (a,b)::r,(c,d)::s=>avEq a c&&(avEq b d&&esEq r s)
 | _,_=>false
theorem esEq_eq:∀ (a b:List (AV×AV)),esEq a b=true→a=b
 | [],b,h=>by cases b <;> simp_all [esEq]
 | (a,b)::r,[],h=>by simp [esEq]at h
 | (a,b)::r,(c,d)::s,h=>by
  simp only [esEq,Bool.and_eq_true]at h;rw [avEq_eq _ _ h.1,avEq_eq _ _ h.2.1,esEq_eq r s h.2.2]
def blkEq:Blk→Blk→Bool
 | .cellsT t vs,.cellsT u ws=>decide (t=u)&&avEqL vs ws
 | .arrX ne t sz v rows wr,.arrX ne' t' sz' v' rows' wr'=>decide (ne=ne'∧t=t'∧sz=sz'∧v=v'∧wr=wr')&&avEqR rows rows'
 | .map es,.map es'=>esEq es es'
 | .dead,.dead=>true
 | _,_=>false
theorem blkEq_eq(a b:Blk)(h:blkEq a b=true):a=b:=by
 cases a <;> cases b <;> simp only [blkEq,Bool.false_eq_true,Bool.and_eq_true,decide_eq_true_eq]at h
 ·rw [h.1,avEqL_eq _ _ h.2]
 ·obtain ⟨⟨rfl,rfl,rfl,rfl,rfl⟩,h2⟩:=h
  rw [avEqR_eq _ _ h2]
 ·rw [esEq_eq _ _ h]
 ·rfl
def heapEq:Heap→Heap→Bool
 | [],[]=>true
 | a::r,b::s=>blkEq a b&&heapEq r s
 | _,_=>false
theorem heapEq_eq:∀ (a b:Heap),heapEq a b=true→a=b
 | [],b,h=>by cases b <;> simp_all [heapEq]
 | a::r,[],h=>by simp [heapEq]at h
 | a::r,b::s,h=>by
  simp only [heapEq,Bool.and_eq_true]at h;rw [blkEq_eq _ _ h.1,heapEq_eq r s h.2]
abbrev TS:=List (Nat×AV)→List (Nat×AV)→Heap→Option (List StX)
def bindS(f:StX→Option (List StX)):List StX→Option (List StX)
 | []=>some []
 | o::os=>match f o with
  | some l=>(bindS f os).map (l++·)
  | none=>none
theorem bindS_mem{f:StX→Option (List StX)}:∀ {L outs:List StX},bindS f L=some outs→∀ o∈L,∃ l,f o=some l∧∀ x∈l,x∈outs
 | [],outs,h,o,ho=>by cases ho
 | p::os,outs,h,o,ho=>by
  simp only [bindS]at h;split at h
  ·rename_i l hl
   simp only [Option.map_eq_some_iff]at h;obtain ⟨r,h1,rfl⟩:=h;rcases List.mem_cons.1 ho with rfl | ho
   ·exact ⟨l,hl,fun x hx=>List.mem_append_left _ hx⟩
   ·obtain ⟨l',h2,h3⟩:=bindS_mem h1 o ho
    exact ⟨l',h2,fun x hx=>List.mem_append_right _ (h3 x hx)⟩
  ·cases h
def contS(k:TS):StX→Option (List StX)
 | (.normal,env,fr,h)=>k env fr h
 | o=>some [o]
def loopS(T:TS)(dead:List Nat)(n:Nat):Nat→List (Nat×AV)→Heap→Option (List StX)
 | 0,_,_=>none
 | N+1,fr,h=>match T [] (junkAll dead fr) (truncD dead n (junkAll dead fr) h)with
  | some L=>bindS (contS fun _ fr h=>loopS T dead n N fr h) L
  | none=>none
def blkOne(id:Nat):StX→StX
 | (.exit j,env,fr,h)=>(if j=id then .normal else .exit j,env,fr,h)
 | o=>o
def oneS:Option StX→Option (List StX)
 | some o=>some [o]
 | none=>none
def altS(G:Gam)(dst:Option Nat)(kept:Bool)(is:List MI)(fr:List (Nat×AV)):List (AV×Heap)→Option (List StX)
 | []=>some []
 | r::rs=>match regX (run G false is (bindR dst kept [] fr (some r))),altS G dst kept is fr rs with
  | some o,some l=>some (o::l)
  | _,_=>none
theorem altS_mem{G:Gam}{dst:Option Nat}{kept:Bool}{is:List MI}{fr:List (Nat×AV)}:∀ {rs:List (AV×Heap)} {L:List StX},altS G dst kept is fr rs=some L→∀ r∈rs,∃ o∈L,regX (run G false is (bindR dst kept [] fr (some r)))=some o
 | [],L,_,r,hr=>by cases hr
 | s::rs,L,h,r,hr=>by
  simp only [altS]at h;split at h
  ·rename_i o l h1 h2
   injection h with h; subst h
   rcases List.mem_cons.1 hr with rfl | hr
   ·exact ⟨o,by simp,h1⟩
   ·obtain ⟨o',h3,h4⟩:=altS_mem h2 r hr
    exact ⟨o',by simp [h3],h4⟩
  ·cases h
def frEq:List (Nat×AV)→List (Nat×AV)→Bool
 | [],[]=>true
 | (a,v)::r,(b,w)::s=>Nat.beq a b&&(avEq v w&&frEq r s)
 | _,_=>false
theorem frEq_eq:∀ (a b:List (Nat×AV)),frEq a b=true→a=b
 | [],b,h=>by cases b <;> simp_all [frEq]
 | (a,v)::r,[],h=>by simp [frEq]at h
 | (a,v)::r,(b,w)::s,h=>by
  simp only [frEq,Bool.and_eq_true]at h;rw [Nat.eq_of_beq_eq_true h.1,avEq_eq _ _ h.2.1,frEq_eq r s h.2.2]
def stEq:StX→StX→Bool
 | (.normal,e,f,h),(.normal,e',f',h')=>frEq e e'&&(frEq f f'&&heapEq h h')
 | (.exit i,e,f,h),(.exit j,e',f',h')=>Nat.beq i j&&(frEq e e'&&(frEq f f'&&heapEq h h'))
 | _,_=>false
theorem stEq_eq(a b:StX)(hs:stEq a b=true):a=b:=by
 obtain ⟨x,e,f,h⟩:=a
 obtain ⟨y,e',f',h'⟩:=b
 cases x <;> cases y <;> simp only [stEq,Bool.false_eq_true,Bool.and_eq_true]at hs
 ·rw [frEq_eq _ _ hs.1,frEq_eq _ _ hs.2.1,heapEq_eq _ _ hs.2.2]
 ·rw [Nat.eq_of_beq_eq_true hs.1,frEq_eq _ _ hs.2.1,frEq_eq _ _ hs.2.2.1,heapEq_eq _ _ hs.2.2.2]
def ddS:List StX→List StX
 | []=>[]
 | o::os=>o::(ddS os).filter fun p=>!stEq o p
theorem ddS_mem:∀ {L:List StX} {o:StX},o∈L→o∈ddS L
 | [],o,h=>by cases h
 | p::os,o,h=>by
  rw [ddS];cases hs:stEq p o with
  | true=>rw [stEq_eq _ _ hs]; exact List.mem_cons_self
  | false=>
   rcases List.mem_cons.1 h with rfl | h
   ·exact List.mem_cons_self
   ·exact List.mem_cons_of_mem _ (List.mem_filter.2 ⟨ddS_mem h,by simp [hs]⟩)
def runW(G:Gam)(N:Nat):MC→TS
 | .skip=>fun env fr h=>some [(.normal,env,fr,h)]
 | .reg is=>fun _ fr h=>oneS (regX (run G false is (.ok [] fr h)))
 | .rgd is=>fun _ fr h=>oneS (regX (run G true is (.ok [] fr h)))
 | .rge is=>fun _ fr h=>oneS (rgeX (runX G h is [] [] fr h))
 | .seq a b=>fun env fr h=>match runW G N a env fr h with
  | some L=>bindS (contS (runW G N b)) L
  | none=>none
 | .ite c a b=>fun env fr h=>match getA (getT env fr) c with
  | some (.bool true)=>runW G N a env fr h
  | some (.bool false)=>runW G N b env fr h
  | _=>none
 | .blk id a=>fun env fr h=>(runW G N a env fr h).map fun L=>L.map (blkOne id)
 | .loop dead a=>fun _ fr h=>(loopS (runW G N a) dead h.length N fr h).map ddS
 | .exit id=>fun env fr h=>some [(.exit id,env,fr,h)]
 | .ret=>fun env fr h=>some [(.ret,env,fr,h)]
 | .rgf g ps a b=>fun env fr h=>oneS (runC G N (.rgf g ps a b) env fr h)
 | .rgn g dst kept is=>fun _ fr h=>match getA (getT [] fr) g with
  | some (.ptr l 0)=>(match mnxAV h l with
   | some alts=>altS G dst kept is fr alts
   | none=>none)
  | _=>none
 | .both a b=>fun env fr h=>match runW G N a env fr h,runW G N b env fr h with
  | some L,some M=>some (L++M)
  | _,_=>none
 | .bad=>fun _ _ _=>none
abbrev Holds1(Q:MPost)(o:StX):Prop:=Q o.1 o.2.1 o.2.2.1 o.2.2.2
theorem loopS_sound{T:MPost→List (Nat×AV)→List (Nat×AV)→Heap→Prop}{R:TS}(hT:∀ {Q:MPost} {env fr:List (Nat×AV)} {h:Heap} {L:List StX},R env fr h=some L→(∀ o∈L,Holds1 Q o)→T Q env fr h){dead:List Nat}{n:Nat}{Q:MPost} :
  ∀ (N:Nat) {env fr:List (Nat×AV)} {h:Heap} {L:List StX},loopS R dead n N fr h=some L→(∀ o∈L,Holds1 Q o)→roundsM T dead n Q N env fr h
 | 0,_,_,_,_,hr,_=>by cases hr
 | N+1,env,fr,h,L,hr,hq=>by
  simp only [loopS]at hr;simp only [roundsM];split at hr
  ·rename_i L1 h1
   refine hT h1 fun o ho=>?_
   obtain ⟨l,h2,h3⟩:=bindS_mem hr o ho;obtain ⟨x,e,f,h'⟩:=o;cases x with
   | normal=>exact loopS_sound hT N h2 fun o ho=>hq o (h3 o ho)
   | exit i=>
    simp only [contS,Option.some.injEq]at h2; subst h2;exact hq _ (h3 _ (by simp))
   | ret=>
    simp only [contS,Option.some.injEq]at h2; subst h2;exact hq _ (h3 _ (by simp))
  ·cases hr
theorem oneS_some{r:Option StX}{L:List StX}(h:oneS r=some L):∃ o,r=some o∧L=[o]:=by
 cases r with
 | none=>cases h
 | some o=>injection h with h; exact ⟨o,rfl,h.symm⟩
theorem runW_sound{G:Gam}{N:Nat}:∀ (c:MC) {Q:MPost} {env fr:List (Nat×AV)} {h:Heap} {L:List StX},runW G N c env fr h=some L→(∀ o∈L,Holds1 Q o)→wpM G c Q env fr h
 | .skip,Q,env,fr,h,L,hr,hq=>by simp only [runW,Option.some.injEq]at hr; subst hr; exact hq _ (List.mem_singleton.2 rfl)
 | .reg is,Q,env,fr,h,L,hr,hq=>by
  simp only [runW]at hr;obtain ⟨o,h1,rfl⟩:=oneS_some hr;obtain ⟨x,e,f,h'⟩:=o;exact runC_sound (.reg is) (N:=N) h1 (hq _ (List.mem_singleton.2 rfl))
 | .rgd is,Q,env,fr,h,L,hr,hq=>by
  simp only [runW]at hr;obtain ⟨o,h1,rfl⟩:=oneS_some hr;obtain ⟨x,e,f,h'⟩:=o;exact runC_sound (.rgd is) (N:=N) h1 (hq _ (List.mem_singleton.2 rfl))
 | .rge is,Q,env,fr,h,L,hr,hq=>by
  simp only [runW]at hr;obtain ⟨o,h1,rfl⟩:=oneS_some hr;obtain ⟨x,e,f,h'⟩:=o;exact runC_sound (.rge is) (N:=N) h1 (hq _ (List.mem_singleton.2 rfl))
 | .seq a b,Q,env,fr,h,L,hr,hq=>by
  simp only [runW]at hr;simp only [wpM];split at hr
  ·rename_i L1 h1
   refine runW_sound a h1 fun o ho=>?_
   obtain ⟨l,h2,h3⟩:=bindS_mem hr o ho;obtain ⟨x,e,f,h'⟩:=o;cases x with
   | normal=>exact runW_sound b h2 fun o ho=>hq o (h3 o ho)
   | exit i=>
    simp only [contS,Option.some.injEq]at h2; subst h2;exact hq _ (h3 _ (by simp))
   | ret=>
    simp only [contS,Option.some.injEq]at h2; subst h2;exact hq _ (h3 _ (by simp))
  ·cases hr
 | .ite c a b,Q,env,fr,h,L,hr,hq=>by
  simp only [runW]at hr;simp only [wpM];split at hr
  ·rename_i hc; rw [hc]; exact runW_sound a hr hq
  ·rename_i hc; rw [hc]; exact runW_sound b hr hq
  ·cases hr
 | .blk id a,Q,env,fr,h,L,hr,hq=>by
  simp only [runW,Option.map_eq_some_iff]at hr;obtain ⟨L1,h1,rfl⟩:=hr;simp only [wpM];refine runW_sound a h1 fun o ho=>?_
  have hq1:=hq _ (List.mem_map.2 ⟨o,ho,rfl⟩);obtain ⟨x,e,f,h'⟩:=o;cases x with
  | normal=>exact hq1
  | ret=>exact hq1
  | exit i=>
   simp only [Holds1,blkOne]at hq1;simp only [Holds1,blkQ];split <;> rename_i he
   ·rw [if_pos he]at hq1; exact hq1
   ·rw [if_neg he]at hq1; exact hq1
 | .loop dead a,Q,env,fr,h,L,hr,hq=>by
  simp only [runW]at hr;simp only [wpM];simp only [Option.map_eq_some_iff]at hr;obtain ⟨L0,hr,rfl⟩:=hr;exact ⟨N,loopS_sound (T:=wpM G a) (fun hr hq=>runW_sound a hr hq) N hr fun o ho=>hq o (ddS_mem ho)⟩
 | .exit id,Q,env,fr,h,L,hr,hq=>by simp only [runW,Option.some.injEq]at hr; subst hr; exact hq _ (List.mem_singleton.2 rfl)
 | .ret,Q,env,fr,h,L,hr,hq=>by simp only [runW,Option.some.injEq]at hr; subst hr; exact hq _ (List.mem_singleton.2 rfl)
 | .rgf g ps a b,Q,env,fr,h,L,hr,hq=>by
  simp only [runW]at hr;obtain ⟨o,h1,rfl⟩:=oneS_some hr;obtain ⟨x,e,f,h'⟩:=o;exact runC_sound (.rgf g ps a b) (N:=N) h1 (hq _ (List.mem_singleton.2 rfl))
 | .rgn g dst kept is,Q,env,fr,h,L,hr,hq=>by
  simp only [runW]at hr;simp only [wpM];split at hr
  ·rename_i l hg
   rw [hg];split at hr
   ·rename_i alts hm
    have key:(match mnxAV h l with
     | some alts=>∀ r∈alts,match run G false is (bindR dst kept [] fr (some r))with
      | .ok env' fr' h'=>Q .normal env' fr' h'
      | .bad=>False
     | none=>False):=by
     rw [hm];intro r hr';obtain ⟨o,h1,h2⟩:=altS_mem hr r hr';have h3:=hq o h1;cases hk:run G false is (bindR dst kept [] fr (some r))with
     | ok e f h'=>
      rw [hk]at h2;simp only [regX,Option.some.injEq]at h2;subst h2;exact h3
     | bad=>rw [hk]at h2; cases h2
    exact key
   ·cases hr
  ·cases hr
 | .both a b,Q,env,fr,h,L,hr,hq=>by
  simp only [runW]at hr;split at hr
  ·rename_i L1 L2 h1 h2
   injection hr with hr; subst hr
   exact ⟨runW_sound a h1 fun o ho=>hq o (List.mem_append_left _ ho),runW_sound b h2 fun o ho=>hq o (List.mem_append_right _ ho)⟩
  ·cases hr
 | .bad,Q,env,fr,h,L,hr,hq=>by cases hr
def finO(rs:List RV)(post:AV→Heap→Option (AV×Heap)):StX→Option (AV×Heap)
 | (.exit _,_,_,_)=>none
 | (_,env,fr,h)=>match resAV (getT env fr) h rs with
  | some v=>post v h
  | none=>none
theorem finO_some{rs:List RV}{post:AV→Heap→Option (AV×Heap)}{x:MX}{env fr:List (Nat×AV)}{h:Heap}{r:AV×Heap}:finO rs post (x,env,fr,h)=some r→(match x with | .exit _=>False | _=>True)∧∃ v,resAV (getT env fr) h rs=some v∧post v h=some r:=by
 intro hf
 cases x with
 | exit i=>cases hf
 | normal=>
  simp only [finO]at hf;split at hf
  ·rename_i v hv; exact ⟨trivial,v,hv,hf⟩
  ·cases hf
 | ret=>
  simp only [finO]at hf;split at hf
  ·rename_i v hv; exact ⟨trivial,v,hv,hf⟩
  ·cases hf
def isOne(r:AV×Heap):Option (AV×Heap)→Bool
 | some q=>avEq r.1 q.1&&heapEq r.2 q.2
 | none=>false
def allOne(f:StX→Option (AV×Heap)):List StX→Option (AV×Heap)
 | []=>none
 | o::os=>match f o with
  | some r=>if os.all fun p=>isOne r (f p)then some r else none
  | none=>none
theorem allOne_eq{f:StX→Option (AV×Heap)}{L:List StX}{r:AV×Heap}(h:allOne f L=some r):∀ o∈L,f o=some r:=by
 cases L with
 | nil=>cases h
 | cons p os=>
  simp only [allOne]at h;split at h
  ·rename_i r' hr
   split at h
   ·rename_i hall
    injection h with h; subst h
    intro o ho;rcases List.mem_cons.1 ho with rfl | ho
    ·exact hr
    ·have h1:=List.all_eq_true.1 hall o ho
     cases hf:f o with
     | none=>rw [hf]at h1; cases h1
     | some q=>
      rw [hf]at h1;simp only [isOne,Bool.and_eq_true]at h1;obtain ⟨r1,r2⟩:=r';obtain ⟨q1,q2⟩:=q;have e1:=avEq_eq _ _ h1.1;have e2:=heapEq_eq _ _ h1.2;dsimp only at e1 e2;subst e1; subst e2; rfl
   ·cases h
  ·cases h
def runO(G:Gam)(N:Nat)(mc:MC)(ks:List Nat)(rs:List RV)(args:List AV)(h:Heap)(post:AV→Heap→Option (AV×Heap)):Option (AV×Heap):=match runW G N mc [] (frInit ks args) h with
 | some L=>allOne (finO rs post) L
 | none=>none
theorem runO_sound{G:Gam}{N:Nat}{mc:MC}{ks:List Nat}{rs:List RV}{args:List AV}{h:Heap}{post:AV→Heap→Option (AV×Heap)}{r:AV×Heap}(hr:runO G N mc ks rs args h post=some r){Q:MPost}
  (hQ:∀ x env fr h',(match x with | .exit _=>False | _=>True)→(∃ v,resAV (getT env fr) h' rs=some v∧post v h'=some r)→Q x env fr h'):wpM G mc Q [] (frInit ks args) h:=by
 unfold runO at hr
 split at hr
 ·rename_i L hL
  refine runW_sound mc hL fun o ho=>?_
  obtain ⟨x,env,fr,h'⟩:=o;obtain ⟨h1,h2⟩:=finO_some (allOne_eq hr _ ho);exact hQ x env fr h' h1 h2
 ·cases hr
def pU(v:AV)(h:Heap):Option (AV×Heap):=(view h v).map fun r=>(r,[])
def pK(v:AV)(h:Heap):Option (AV×Heap):=(viewK h v).map fun r=>(r,[])
def pS(v:AV)(h:Heap):Option (AV×Heap):=match settleL h (parts1 v)with
 | some h1=>(viewK h1 v).map fun r=>(r,[])
 | none=>none
def pG(v:AV)(h:Heap):Option (AV×Heap):=some (v,h)
def pL(n:Nat)(v:AV)(h:Heap):Option (AV×Heap):=(leaveX n v h).map fun h1=>(v,h1)
def pZ(v:AV)(h:Heap):Option (AV×Heap):=frz h v
def pZL(n:Nat)(v:AV)(h:Heap):Option (AV×Heap):=match frz h v with
 | some (u,h1)=>(leaveX n u h1).map fun h2=>(u,h2)
 | none=>none
def finD(G:Gam)(rs:List RV)(x:DfE)(vs:List AV)(n:Nat):StX→Option (AV×Heap)
 | (.exit _,_,_,_)=>none
 | (_,env,fr,h1)=>match run G false x.gis (.ok [] (frInit x.gks vs) h1)with
  | .ok _ _ h2=>(match resAV (getT env fr) h2 rs with
   | some v=>(leaveX n v h2).map fun h3=>(v,h3)
   | none=>none)
  | .bad=>none
theorem finD_some{G:Gam}{rs:List RV}{x:DfE}{vs:List AV}{n:Nat}{y:MX}{env fr:List (Nat×AV)}{h1:Heap}{r:AV×Heap}:finD G rs x vs n (y,env,fr,h1)=some r→(match y with | .exit _=>False | _=>True)∧(match run G false x.gis (.ok [] (frInit x.gks vs) h1)with
  | .ok _ _ h2=>(match resAV (getT env fr) h2 rs with
   | some v=>(leaveX n v h2).map fun h3=>(v,h3)
   | none=>none)
  | .bad=>none)=some r:=by
 intro hf
 cases y with
 | exit i=>cases hf
 | normal=>exact ⟨trivial,hf⟩
 | ret=>exact ⟨trivial,hf⟩
def runDS(G:Gam)(N:Nat)(mc:MC)(ks:List Nat)(rs:List RV)(x:DfE)(args:List AV)(h:Heap):Option (AV×Heap):=
 match run G false x.is0 (.ok [] (frInit ks args) h)with
 | .ok _ fr0 h0=>(match stepV G false x.m1 (getT [] fr0) h0 with
  | some (.fn g vs,_)=>if g=x.g then (match runW G N mc [] fr0 h0 with
   | some L=>allOne (finD G rs x vs h.length) L
   | none=>none)else none
  | _=>none)
 | .bad=>none
def Ent.ctS(x:Ent)(G:Gam)(N:Nat):CT:=match x.df with
 | some d=>.gen (runDS G N x.mc x.ks x.rs d)
 | none=>match x.kind with
  | 0=>.pure fun args=>(runO G N x.mc x.ks x.rs args [] pU).map (·.1)
  | 1=>.pure fun args=>(runO G N x.mc x.ks x.rs args [] pK).map (·.1)
  | 3=>.gen fun args h=>runO G N x.mc x.ks x.rs args h (pL h.length)
  | 5=>.pure fun args=>(runO G N x.mc x.ks x.rs args [] pS).map (·.1)
  | 6=>.gen fun args h=>runO G N x.mc x.ks x.rs args h pZ
  | 7=>.gen fun args h=>runO G N x.mc x.ks x.rs args h (pZL h.length)
  | _=>.gen fun args h=>runO G N x.mc x.ks x.rs args h pG
def genS(P:Program)(gv:Gv)(T:FuncId→Option FE)(N:Nat)(base:Gam):Nat→Gam
 | 0=>base
 | d+1=>{ base with fn:=fun f=>match base.fn f with
  | some c=>some c
  | none=>match entry P gv T f with
   | some x=>some (x.ctS (genS P gv T N base d) N)
   | none=>none }
theorem entryDS_ok{P:Program}(hm:P.follows .mixedOrders=true){gv:Gv}{T:FuncId→Option FE}{f:FuncId}{e:FE}{fn:Func}{c:Code}{rs:List RV}{x:Ent}(hf:P.funcs[f]?=some fn)(hb:fn.body=some c)(hks:(e.ks.all fun k=>decide (k<fn.ntmps))=true)(hrs:compRVs P fn.results.toList=some rs)
  (hx:entryD P gv T e fn.ntmps rs c=some x) {G:Gam} (hG:GamOK P gv G) {N:Nat}:(x.ctS G N).OK P gv f:=by
 unfold entryD at hx
 split at hx
 ·rename_i ops0 ops1 o1 t g caps rest hsp
  split at hx
  ·rename_i eg gn _ hgn
   split at hx
   ·rename_i gc hgc
    split at hx
    ·rename_i gops hgo
     split at hx
     ·rename_i hc
      simp only [Bool.and_eq_true,Bool.not_eq_true']at hc;obtain ⟨⟨⟨⟨c1,c2⟩,c3⟩,c4⟩,c5⟩:=hc;simp only [Option.some.injEq]at hx;subst hx;show GenOK P gv f _
      refine genD_of hm hG hf hb (ow:=e.ow) (dl:=e.dl) hsp hks c1 hrs rfl rfl rfl hgn hgc hgo (by simpa using c2) c3 (enters_of c4) (gow:=eg.ow) rfl fun args h r h' _ _ hr=>?_
      unfold runDS at hr;split at hr
      ·rename_i env0 fr0 h0 hr0
       split at hr
       ·rename_i g' vs h0' hs
        split at hr
        ·rename_i hg'
         subst hg';have:=stepV_quiet c5 hs;subst this;refine ⟨env0,fr0,_,vs,hr0,hs,?_⟩
         split at hr
         ·rename_i L hL
          refine runW_sound _ hL fun o ho=>?_
          have h1:=allOne_eq hr o ho;obtain ⟨y,env,fr,hh⟩:=o;obtain ⟨k0,k1⟩:=finD_some h1;split at k1
          ·rename_i env2 fr2 h2 hr2
           split at k1
           ·rename_i v hv
            simp only [Option.map_eq_some_iff,Prod.mk.injEq]at k1;obtain ⟨h3,hl,rfl,rfl⟩:=k1;exact ⟨k0,env2,fr2,h2,hr2,leaveX_ok hv hl⟩
           ·cases k1
          ·cases k1
         ·cases hr
        ·cases hr
       ·cases hr
      ·cases hr
     ·cases hx
    ·cases hx
   ·cases hx
  ·cases hx
 ·cases hx
theorem entryS_ok{P:Program}(hm:P.follows .mixedOrders=true){gv:Gv}{T:FuncId→Option FE}{f:FuncId}{x:Ent}(hx:entry P gv T f=some x){G:Gam}(hG:GamOK P gv G){N:Nat}:Enters P f∧(x.ctS G N).OK P gv f:=by
 unfold entry at hx
 split at hx
 ·cases hx
 ·rename_i e _
  split at hx
  ·cases hx
  ·rename_i fn hf
   split at hx
   ·cases hx
   ·rename_i c hb
    split at hx
    ·cases hx
    ·rename_i rs hrs
     split at hx
     ·rename_i hk
      simp only [Bool.and_eq_true]at hk;refine ⟨enters_of hk.2,?_⟩
      split at hx
      ·exact entryDS_ok hm hf hb hk.1 hrs hx hG
      simp only [Option.some.injEq]at hx;subst hx;unfold Ent.ctS;dsimp only;split
      ·refine pure_of hm hG hf hb (ow:=e.ow) (dl:=e.dl) hk.1 hrs rfl fun args r hr=>?_
       simp only [Option.map_eq_some_iff]at hr;obtain ⟨q,hq,rfl⟩:=hr;refine runO_sound hq fun x env fr h' h1 h2=>⟨h1,?_⟩
       obtain ⟨v,k1,k2⟩:=h2;simp only [pU,Option.map_eq_some_iff]at k2;obtain ⟨r,k3,rfl⟩:=k2;exact ⟨v,k1,k3⟩
      ·refine pureK_of hm hG hf hb (ow:=e.ow) (dl:=e.dl) hk.1 hrs rfl fun args r hr=>?_
       simp only [Option.map_eq_some_iff]at hr;obtain ⟨q,hq,rfl⟩:=hr;refine runO_sound hq fun x env fr h' h1 h2=>⟨h1,?_⟩
       obtain ⟨v,k1,k2⟩:=h2;simp only [pK,Option.map_eq_some_iff]at k2;obtain ⟨r,k3,rfl⟩:=k2;exact ⟨v,k1,k3⟩
      ·refine genL_of hm hG hf hb (ow:=e.ow) (dl:=e.dl) hk.1 hrs rfl fun args h r h' _ _ hr=>?_
       refine runO_sound hr fun x env fr h1 h2 h3=>⟨h2,?_⟩
       obtain ⟨v,k1,k2⟩:=h3;simp only [pL,Option.map_eq_some_iff,Prod.mk.injEq]at k2;obtain ⟨h4,k3,rfl,rfl⟩:=k2;exact leaveX_ok k1 k3
      ·refine pureS_of hm hG hf hb (ow:=e.ow) (dl:=e.dl) hk.1 hrs rfl fun args r hr=>?_
       simp only [Option.map_eq_some_iff]at hr;obtain ⟨q,hq,rfl⟩:=hr;refine runO_sound hq fun x env fr h' h1 h2=>⟨h1,?_⟩
       obtain ⟨v,k1,k2⟩:=h2;unfold pS at k2;split at k2
       ·rename_i h1 hs
        simp only [Option.map_eq_some_iff]at k2;obtain ⟨r,k3,rfl⟩:=k2;exact ⟨v,h1,k1,hs,k3⟩
       ·cases k2
      ·refine genF_of hm hG hf hb (ow:=e.ow) (dl:=e.dl) hk.1 hrs rfl fun args h r h' hr=>?_
       refine runO_sound hr fun x env fr h1 h2 h3=>⟨h2,?_⟩
       obtain ⟨v,k1,k2⟩:=h3;exact ⟨v,k1,k2⟩
      ·refine genZL_of hm hG hf hb (ow:=e.ow) (dl:=e.dl) hk.1 hrs rfl fun args h r h' _ _ hr=>?_
       refine runO_sound hr fun x env fr h1 h2 h3=>⟨h2,?_⟩
       obtain ⟨v,k1,k2⟩:=h3;unfold pZL at k2;split at k2
       ·rename_i u h4 hz
        simp only [Option.map_eq_some_iff,Prod.mk.injEq]at k2;obtain ⟨h5,k3,rfl,rfl⟩:=k2;obtain ⟨_,m1,m2,m3,m4⟩:=leaveX_ok (rs:=[.tmp 0]) (e:=fun _=>some u) rfl k3;exact ⟨v,h4,k1,hz,m1,m2,m3,m4⟩
       ·cases k2
      ·refine gen_of hm hG hf hb (ow:=e.ow) (dl:=e.dl) hk.1 hrs rfl fun args h r h' hr=>?_
       refine runO_sound hr fun x env fr h1 h2 h3=>?_
       obtain ⟨v,k1,k2⟩:=h3;simp only [pG,Option.some.injEq,Prod.mk.injEq]at k2;obtain ⟨rfl,rfl⟩:=k2;exact ⟨h2,k1,rfl⟩
     ·cases hx
theorem genS_ok{P:Program}(hm:P.follows .mixedOrders=true){gv:Gv}{T:FuncId→Option FE}{N:Nat}{base:Gam}(hB:GamOK P gv base):∀ d,GamOK P gv (genS P gv T N base d)
 | 0=>hB
 | d+1=>by
  have ih:=genS_ok hm (T:=T) (N:=N) hB d;refine ⟨fun f c h=>?_,fun f c h=>?_,hB.noy⟩
  ·simp only [genS]at h
   split at h
   ·rename_i c' hb
    exact hB.enters f c' hb
   ·split at h
    ·rename_i x hx
     exact (entryS_ok hm hx ih (N:=N)).1
    ·cases h
  ·simp only [genS]at h
   split at h
   ·rename_i c' hb
    injection h with h; subst h
    exact hB.ok f c' hb
   ·split at h
    ·rename_i x hx
     injection h with h; subst h
     exact (entryS_ok hm hx ih (N:=N)).2
    ·cases h
end Go.Proofs.YtpefhfiehfkocaaGreatDoor
