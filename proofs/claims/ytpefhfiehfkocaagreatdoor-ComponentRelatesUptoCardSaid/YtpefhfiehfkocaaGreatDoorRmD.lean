/- slices.IndexFunc and ContainsFunc,at this program's types: by program. Parts of paths: cmp.Less,slices.IsSorted,tree.part and what it calls. Paths: tree.part,tree.Path,and the reference's. Touche -/
import Derived.Test.YtpefhfiehfkocaaGreatDoorRecMc
import Derived.Test.YtpefhfiehfkocaaGreatDoorAm10
import Derived.Test.YtpefhfiehfkocaaGreatDoorRmA
import Derived.Test.YtpefhfiehfkocaaGreatDoorAm1
namespace Go.Proofs.YtpefhfiehfkocaaGreatDoor
open Go.RowKit Go.IntWalk
theorem idxf_loop_slices_IndexFunc___string_string_(G:Gam)(h:Heap)(rows:List (List AV))(f:FuncId)(caps:List AV)(hb:rows.length≤big):∀ (rest:List (List AV)) (i:Nat) (v:Int),rows.drop i=rest→findA (fun row=>if row.length=1 then (mkVal false 1 row).bind (ask G h f caps)else none) i rest=some v→
  headM G [5] Mc.q25_L0 h.length [.blk 0,.seq (.seq (.reg [kz 4 .mv [.c (.int .i64 (-1))]]) .ret)] (lookQ Rs.q25 (.int .i64 v) h)
  [(0,.sl rows),(1,.fn f caps),(4,.int .i64 0),(5,.junk),(7,.int .i64 rows.length),(8,.int .i64 i)] h
 | [],i,v,hd,hv=>by
  have hi:=drop_nil hd;have hi':¬ (i:Int)<rows.length:=by omega
  simp only [findA,Option.some.injEq]at hv; subst hv;refine head_go (Mc.q25_L0.eq_1) ?_
  simp [ltB,hi',lookQ,Rs.q25,owns,freezeAll]
 | x::rest,i,v,hd,hv=>by
  obtain ⟨hi,hx,hxd⟩:=drop_cons hd;have hi':(i:Int)<rows.length:=by omega
  have hw:=wrap1 (i:=i) (by omega);by_cases hl:x.length=1
  ·simp only [findA,hl,if_true]at hv
   cases hm:mkVal false 1 x with
   | none=>simp [hm]at hv
   | some a=>
    simp only [hm,Option.bind_some]at hv;have hcut:mkVal false 1 (cut x 0 1)=some a:=by rw [cut_all hl]; exact hm
    cases ha:ask G h f caps a with
    | none=>simp [ha]at hv
    | some b=>
     have hc:=ask_call ha;simp only [ha]at hv;refine head_go (Mc.q25_L0.eq_1) ?_
     cases b with
     | true=>
      simp only [Option.some.injEq]at hv; subst hv;simp [ltB,hi',iadr_sl hx hl,hcut,hc,lookQ,Rs.q25,owns,freezeAll]
     | false=>
      simp [ltB,hi',iadr_sl hx hl,hcut,hc,hw];refine head_of ?_
      have ih:=idxf_loop_slices_IndexFunc___string_string_ G h rows f caps hb rest (i+1) v hxd hv;simpa using ih
  ·simp [findA,hl]at hv
theorem idxf_ok_slices_IndexFunc___string_string_(G:Gam):∀ args h r,F_IndexFunc false 1 G args h=some r→wpM G Mc.q25 (lookQ Rs.q25 r h) [] (frInit Ks.q25 args) h:=by
 intro args h r hF
 obtain ⟨rows,f,caps,v,rfl,hb,hv,rfl⟩:=F_IndexFunc_inv hF
 rw [wpM_go]
 have ih:=idxf_loop_slices_IndexFunc___string_string_ G h rows f caps hb rows 0 v rfl hv
 simpa [Mc.q25,frInit,Ks.q25] using ih
theorem contf_ok_slices_ContainsFunc___string_string_(G G0:Gam)(hG:G Fn.q25=some (.gen (lookF (F_IndexFunc false 1 G0)))):∀ args h r,F_ContainsFunc false 1 G0 args h=some r→wpM G Mc.q19 (lookQ Rs.q19 r h) [] (frInit Ks.q19 args) h:=by
 intro args h r hF
 obtain ⟨rows,f,caps,v,rfl,hb,hv,rfl⟩:=F_ContainsFunc_inv hF
 rw [wpM_go]
 have hc:∀ h0:Heap,h0=h→opV G false h0 (.call Fn.q25) (some [.sl rows,.fn f caps])=some (.int .i64 v,h0):=fun h0 e=>by subst e; rw [op_call_gen hG]; simp [lookF,F_IndexFunc,hb,hv]
 simp [Mc.q19,frInit,Ks.q19,hc,lookQ,Rs.q19,owns,freezeAll]
end Go.Proofs.YtpefhfiehfkocaaGreatDoor
namespace Go.Proofs.YtpefhfiehfkocaaGreatDoor
open Go.RowKit Go.IntWalk
theorem op_nxt{G:Gam}{s:Bool}{h:Heap}{str:Bs}{l pos:Nat}(hl:h[l]?=some (.iter str pos)):opV G s h .nxt (some [.ptr l 0])=if pos<str.length then some (.tup [.bool true,.int .i64 pos,.int .i32 (Utf8.decode ⟨str.toArray⟩ pos).1],h.set l (.iter str (pos+(Utf8.decode ⟨str.toArray⟩ pos).2)))else some (.tup [.bool false],h):=by
 rw [opV_eff rfl]; simp only [evalEff,hl]
@[simp] theorem op_rng{G:Gam}{s:Bool}{h:Heap}{str:Bs}:opV G s h .rng (some [.str str])=some (.ptr h.length 0,h++[.iter str 0]):=by rw [opV_eff rfl]; rfl
theorem trunc_len{n:Nat}{fr:List (Nat×AV)}{h:Heap}(hl:h.length=n):trunc n fr h=h:=by subst hl; exact trunc_self
noncomputable def runesA(G:Gam)(h:Heap)(f:FuncId)(caps:List AV)(truth:Bool)(s:Bs):Nat→Nat→Option Int
 | 0,_=>none
 | n+1,pos=>if pos<s.length then (match ask G (h++[.iter s (pos+(Utf8.decode ⟨s.toArray⟩ pos).2)]) f caps (.int .i32 (Utf8.decode ⟨s.toArray⟩ pos).1)with
   | some b=>if b=truth then some pos else runesA G h f caps truth s n (pos+(Utf8.decode ⟨s.toArray⟩ pos).2)
   | none=>none)else some (-1)
noncomputable def F_indexFunc(G:Gam):List AV→Heap→Option AV
 | [.str s,.fn f caps,.bool truth],h=>(runesA G h f caps truth s (s.length+1) 0).map (.int .i64)
 | _,_=>none
noncomputable def F_strIndexFunc(G:Gam):List AV→Heap→Option AV
 | [.str s,.fn f caps],h=>(runesA G h f caps true s (s.length+1) 0).map (.int .i64)
 | _,_=>none
noncomputable def F_strContainsFunc(G:Gam):List AV→Heap→Option AV
 | [.str s,.fn f caps],h=>(runesA G h f caps true s (s.length+1) 0).map fun i=>.bool (!ltB i 0)
 | _,_=>none
theorem indexFunc_loop(G:Gam)(h:Heap)(s:Bs)(f:FuncId)(caps:List AV)(truth:Bool):∀ (n pos:Nat) (v:Int),runesA G h f caps truth s n pos=some v→
  headM G [7,8,11] Mc.q59_L0 (h.length+1) [.blk 0,.seq (.seq (.reg [kz 6 .mv [.c (.int .i64 (-1))]]) .ret)] (lookQ Rs.q59 (.int .i64 v) h)
  [(0,.str s),(1,.fn f caps),(2,.bool truth),(6,.int .i64 0),(7,.junk),(8,.junk),(10,.ptr h.length 0),(11,.junk)] (h++[.iter s pos])
 | 0,pos,v,hv=>by simp [runesA]at hv
 | n+1,pos,v,hv=>by
  refine head_go (Mc.q59_L0.eq_1) ?_
  rw [trunc_len (by simp)];have hn:=fun s'=>op_nxt (G:=G) (s:=s') (h:=h++[.iter s pos]) (str:=s) (l:=h.length) (pos:=pos) (by simp)
  simp only [runesA]at hv;by_cases hp:pos<s.length
  ·simp only [hp,if_true]at hv
   cases ha:ask G (h++[.iter s (pos+(Utf8.decode ⟨s.toArray⟩ pos).2)]) f caps (.int .i32 (Utf8.decode ⟨s.toArray⟩ pos).1)with
   | none=>simp [ha]at hv
   | some b=>
    have hc:=ask_call ha;simp only [ha]at hv;by_cases hb:b=truth
    ·simp only [hb,if_true,Option.some.injEq]at hv; subst hv hb
     simp [hn,hp,hc,lookQ,Rs.q59,owns,freezeAll]
    ·simp only [hb,if_false]at hv
     have hb':(b == truth)=false:=by simp [hb]
     simp [hn,hp,hc,hb'];refine head_of ?_
     have ih:=indexFunc_loop G h s f caps truth n _ v hv;rw [trunc_len (by simp)];simpa using ih
  ·simp only [hp,if_false,Option.some.injEq]at hv; subst hv
   simp [hn,hp,lookQ,Rs.q59,owns,freezeAll]
theorem indexFunc_ok(G:Gam):∀ args h r,F_indexFunc G args h=some r→wpM G Mc.q59 (lookQ Rs.q59 r h) [] (frInit Ks.q59 args) h:=by
 intro args h r hF
 match args,hF with
 | [.str s,.fn f caps,.bool truth],hF=>
  simp only [F_indexFunc,Option.map_eq_some_iff]at hF;obtain ⟨v,hv,rfl⟩:=hF;rw [wpM_go];have ih:=indexFunc_loop G h s f caps truth _ 0 v hv;simpa [Mc.q59,frInit,Ks.q59] using ih
theorem strIndexFunc_ok(G G0:Gam)(hG:G Fn.q59=some (.gen (lookF (F_indexFunc G0)))):∀ args h r,F_strIndexFunc G0 args h=some r→wpM G Mc.q58 (lookQ Rs.q58 r h) [] (frInit Ks.q58 args) h:=by
 intro args h r hF
 match args,hF with
 | [.str s,.fn f caps],hF=>
  simp only [F_strIndexFunc,Option.map_eq_some_iff]at hF;obtain ⟨v,hv,rfl⟩:=hF;rw [wpM_go];have hc:opV G false h (.call Fn.q59) (some [.str s,.fn f caps,.bool true])=some (.int .i64 v,h):=by rw [op_call_gen hG]; simp [lookF,F_indexFunc,hv]
  simp [Mc.q58,frInit,Ks.q58,hc,lookQ,Rs.q58,owns,freezeAll]
theorem strContainsFunc_ok(G G0:Gam)(hG:G Fn.q58=some (.gen (lookF (F_strIndexFunc G0)))):∀ args h r,F_strContainsFunc G0 args h=some r→wpM G Mc.q48 (lookQ Rs.q48 r h) [] (frInit Ks.q48 args) h:=by
 intro args h r hF
 match args,hF with
 | [.str s,.fn f caps],hF=>
  simp only [F_strContainsFunc,Option.map_eq_some_iff]at hF;obtain ⟨v,hv,rfl⟩:=hF;rw [wpM_go];have hc:opV G false h (.call Fn.q58) (some [.str s,.fn f caps])=some (.int .i64 v,h):=by rw [op_call_gen hG]; simp [lookF,F_strIndexFunc,hv]
  simp [Mc.q48,frInit,Ks.q48,hc,lookQ,Rs.q48,owns,freezeAll]
def pch(n:Int):Bool:=(!ltB n 97&&!ltB 122 n)||(!ltB n 48&&!ltB 57 n)||eqB n 46||eqB n 95||eqB n 45
def F_part1:List AV→Option AV:=F1 (eKind .i32) eBool fun n=>some (!pch n)
theorem part1_ok(G:Gam):∀ args r,F_part1 args=some r→wpM G Mc.tree_part_1 (pureQ Rs.tree_part_1 r) [] (frInit Ks.tree_part_1 args) []:=F1_ok fun x r h=>by
 injection h with h; subst h
 rw [wpM_go]
 simp +contextual [Mc.tree_part_1,frInit,Ks.tree_part_1,Rs.tree_part_1,eKind,eBool,pch]
end Go.Proofs.YtpefhfiehfkocaaGreatDoor
namespace Go.Proofs.YtpefhfiehfkocaaGreatDoor
open Go.RowKit Go.IntWalk
def partOK:Bs→Bool
 | []=>false
 | c::r=>!ltB 32 ((c::r).length:Nat)&&!eqB c.toNat 46&&!eqB c.toNat 45&&(c::r).all fun b=>pch b.toNat
theorem decode_lo{s:Bs}{i:Nat}{b:UInt8}(hb:s[i]?=some b)(h:b.toNat<128):Utf8.decode ⟨s.toArray⟩ i=(b.toNat,1):=by
 have hg:(ByteArray.get! ⟨s.toArray⟩ i)=b:=by
  show s.toArray[i]! = b
  simp [getElem!_def,hb]
 unfold Utf8.decode
 simp [hg,h]
theorem decode_hi{s:Bs}{i:Nat}{b:UInt8}(hb:s[i]?=some b)(h:128≤b.toNat):128≤(Utf8.decode ⟨s.toArray⟩ i).1:=by
 have hg:(ByteArray.get! ⟨s.toArray⟩ (i+0))=b:=by
  show s.toArray[i]! = b
  simp [getElem!_def,hb]
 unfold Utf8.decode
 have h':¬ b.toNat<128:=by omega
 simp only [hg,h',if_false]
 split
 ·split
  ·simpa using ‹_›
  ·decide
 ·split
  ·split
   ·rename_i h3; simp at h3; simp; omega
   ·decide
  ·split
   ·split
    ·rename_i h3; simp at h3; simp; omega
    ·decide
   ·decide
theorem pch_hi{n:Int}(h:128≤n):pch n=false:=by
 have a1:ltB 122 n=true:=ltB_iff.2 (by omega)
 have a2:ltB 57 n=true:=ltB_iff.2 (by omega)
 have a3:eqB n 46=false:=eqB_not.2 (by omega)
 have a4:eqB n 95=false:=eqB_not.2 (by omega)
 have a5:eqB n 45=false:=eqB_not.2 (by omega)
 simp [pch,a1,a2,a3,a4,a5]
theorem runes_part{G:Gam}(hG:G Fn.tree_part_1=some (.pure F_part1))(h:Heap)(s:Bs):∀ (n pos:Nat),s.length-pos<n→∃ v,runesA G h Fn.tree_part_1 [] true s n pos=some v∧ltB v 0=(s.drop pos).all fun b=>pch b.toNat
 | 0,pos,hn=>by omega
 | n+1,pos,hn=>by
  have hask:∀ h (x:Int),ask G h Fn.tree_part_1 [] (.int .i32 x)=some (!pch x):=fun h x=>ask_of (call_pure hG rfl (F1_use (A:=eKind .i32) (R:=eBool) (x:=x) rfl) rfl)
  simp only [runesA,hask];by_cases hp:pos<s.length
  ·obtain ⟨b,hb,hd⟩:=drop_head hp
   simp only [hp,if_true,hd,List.all_cons];rcases Nat.lt_or_ge b.toNat 128 with hlo | hhi
   ·rw [decode_lo hb hlo]
    cases hpc:pch b.toNat with
    | true=>
     simp only [Bool.not_true,Bool.false_eq_true,if_false,Bool.true_and];exact runes_part hG h s n (pos+1) (by omega)
    | false=>exact ⟨pos,by simp,by simp [ltB_not]⟩
   ·have h1:=pch_hi (n:=(Utf8.decode ⟨s.toArray⟩ pos).1) (by have:=decode_hi hb hhi; omega)
    have h2:=pch_hi (n:=b.toNat) (by omega);exact ⟨pos,by simp [h1],by simp [h2,ltB_not]⟩
  ·have:s.drop pos=[]:=by rw [List.drop_eq_nil_iff]; omega
   exact ⟨-1,by simp [hp],by rw [this]; rfl⟩
def F_part:List AV→Option AV:=F1 eStr eBool fun s=>some (partOK s)
theorem part_ok(G G0:Gam)(hG:G Fn.q48=some (.gen (lookF (F_strContainsFunc G0))))(hG0:G0 Fn.tree_part_1=some (.pure F_part1)):∀ args r,F_part args=some r→wpM G Mc.tree_part (pureQ Rs.tree_part r) [] (frInit Ks.tree_part args) []:=F1_ok fun s r h=>by
 injection h with h; subst h
 rw [wpM_go]
 cases s with
 | nil=>simp [Mc.tree_part,frInit,Ks.tree_part,Rs.tree_part,eStr,eBool,partOK]
 | cons c r=>
  obtain ⟨v,hv,hl⟩:=runes_part hG0 [] (c::r) ((c::r).length+1) 0 (by omega);have hc:opV G false [] (.call Fn.q48) (some [.str (c::r),.fn Fn.tree_part_1 []])=some (.bool (!ltB v 0),[]):=by rw [op_call_gen hG]; simp only [lookF,F_strContainsFunc,hv]; rfl
  rw [List.drop_zero]at hl;cases c1:ltB 32 ((r.length:Int)+1) <;> cases c2:eqB (c.toNat:Int) 46 <;> cases c3:eqB (c.toNat:Int) 45 <;>
   simp [Mc.tree_part,frInit,Ks.tree_part,Rs.tree_part,eStr,eBool,partOK,hc,hl,-List.all_cons,c1,c2,c3]
def F_Path1:List AV→Option AV:=F1 eStr eBool fun s=>some (!partOK s)
theorem Path1_ok(G:Gam)(hG:G Fn.tree_part=some (.pure F_part)):∀ args r,F_Path1 args=some r→wpM G Mc.tree_Path_1 (pureQ Rs.tree_Path_1 r) [] (frInit Ks.tree_Path_1 args) []:=F1_ok fun s r h=>by
 injection h with h; subst h
 rw [wpM_go]
 have hc:∀ st h,opV G st h (.call Fn.tree_part) (some [.str s])=some (.bool (partOK s),h):=fun st h=>op_call hG rfl (F1_use (A:=eStr) (R:=eBool) (x:=s) rfl) (.inl rfl)
 simp [Mc.tree_Path_1,frInit,Ks.tree_Path_1,Rs.tree_Path_1,eStr,eBool,hc]
theorem splitBy_len(c:UInt8):∀ s,(splitBy c s).length≤s.length+1
 | []=>by simp [splitBy]
 | b::r=>by
  have ih:=splitBy_len c r;unfold splitBy; split
  ·simp; omega
  ·split
   ·rename_i p ps h; rw [h]at ih; simp at ih ⊢; omega
   ·simp
def pathOK(s:Bs):Bool:=!ltB 128 s.length&&!ltB 8 (splitBy 47 s).length&&(splitBy 47 s).all partOK
def F_Path:List AV→Option AV:=F1 eStr eInt fun s=>if s.length<4294967281 then some (if pathOK s then 0 else 2)else none
theorem Path_ok(G G0:Gam)(hS:G Fn.q78=some (.pure F_Split))(hC:G Fn.q19=some (.gen (lookF (F_ContainsFunc false 1 G0))))(hG0:G0 Fn.tree_Path_1=some (.pure F_Path1)):∀ args r,F_Path args=some r→wpM G Mc.tree_Path (pureQ Rs.tree_Path r) [] (frInit Ks.tree_Path args) []:=F1_ok fun s r h=>by
 split at h
 ·rename_i hs
  injection h with h; subst h
  rw [wpM_go];have h1:∀ st h,opV G st h (.call Fn.q78) (some [.str s,.str [47]])=some (.sl ((splitBy 47 s).map rStr.enc),h):=fun st h=>op_call hS rfl (F2_use (A:=eStr) (B:=eStr) (R:=eSl rStr) (x:=s) (y:=[47]) (by simp only [hs,if_true])) (.inr rfl)
  have h2:=contains_use (h:=[]) (caps:=[]) (p:=fun x=>!partOK x) (f:=Fn.tree_Path_1) (e:=rStr.enc) (val:=.str) (xs:=splitBy 47 s) hC (by have:=splitBy_len 47 s; unfold big; omega) (fun x=>⟨rfl,rfl⟩) (fun x _=>ask_of (call_pure hG0 rfl (F1_use (A:=eStr) (R:=eBool) (x:=x) rfl) rfl));have hall:(splitBy 47 s).any (fun x=>!partOK x)=!(splitBy 47 s).all partOK:=by rw [List.not_all_eq_any_not]
  rw [hall]at h2;cases c1:ltB 128 s.length <;> cases c2:ltB 8 (splitBy 47 s).length <;> cases c3:(splitBy 47 s).all partOK <;>
   simp only [c3]at h2 <;> simp [Mc.tree_Path,frInit,Ks.tree_Path,Rs.tree_Path,eStr,eInt,pathOK,h1,h2,c1,c2,c3]
 ·cases h
end Go.Proofs.YtpefhfiehfkocaaGreatDoor
namespace Go.Proofs.YtpefhfiehfkocaaGreatDoor
open Go.RowKit Go.IntWalk
structure Touch where
 path:Bs
 dig:Bs
 deriving DecidableEq,Inhabited
structure Done where
 pkg:Int
 line:Int
 kind:Int
 reads:List Touch
 wrote:Touch
 deriving DecidableEq,Inhabited
def Touch.row(t:Touch):List AV:=[.str t.path,.str t.dig]
def decTouch:List AV→Option Touch
 | [.str p,.str d]=>some ⟨p,d⟩
 | _=>none
def decAll{α:Type}(dec:List AV→Option α):List (List AV)→Option (List α)
 | []=>some []
 | r::rs=>match dec r,decAll dec rs with
  | some x,some xs=>some (x::xs)
  | _,_=>none
theorem decAll_of{α:Type}{dec:List AV→Option α}{enc:α→List AV}(h1:∀ r x,dec r=some x→r=enc x):∀ {rows:List (List AV)} {xs:List α},decAll dec rows=some xs→rows=xs.map enc
 | [],xs,h=>by simp [decAll]at h; subst h; rfl
 | r::rs,xs,h=>by
  simp only [decAll]at h;split at h
  ·rename_i x xs' h2 h3
   injection h with h; subst h
   rw [h1 r x h2,decAll_of h1 h3]; rfl
  ·cases h
theorem decAll_enc{α:Type}{dec:List AV→Option α}{enc:α→List AV}(h1:∀ x,dec (enc x)=some x):∀ (xs:List α),decAll dec (xs.map enc)=some xs
 | []=>rfl
 | x::xs=>by simp [decAll,h1,decAll_enc h1 xs]
@[simp] theorem decTouch_row(t:Touch):decTouch t.row=some t:=rfl
def touchRows(ts:List Touch):List (List AV):=ts.map Touch.row
@[simp] theorem touchRows_len{ts:List Touch}:(touchRows ts).length=ts.length:=by simp [touchRows]
@[simp] theorem dec_touchRows(ts:List Touch):decAll decTouch (touchRows ts)=some ts:=decAll_enc decTouch_row ts
def Done.row(d:Done):List AV:=[.int .i64 d.pkg,.int .i64 d.line,.int .i64 d.kind,.sl (touchRows d.reads),.str d.wrote.path,.str d.wrote.dig]
def decDone:List AV→Option Done
 | [.int .i64 p,.int .i64 l,.int .i64 k,.sl rows,.str wp,.str wd]=>(decAll decTouch rows).map fun ts=>⟨p,l,k,ts,⟨wp,wd⟩⟩
 | _=>none
@[simp] theorem decDone_row(d:Done):decDone d.row=some d:=by simp [decDone,Done.row]
def doneRows(ds:List Done):List (List AV):=ds.map Done.row
@[simp] theorem doneRows_len{ts:List Done}:(doneRows ts).length=ts.length:=by simp [doneRows]
@[simp] theorem dec_doneRows(ts:List Done):decAll decDone (doneRows ts)=some ts:=decAll_enc decDone_row ts
end Go.Proofs.YtpefhfiehfkocaaGreatDoor
namespace Go.Proofs.YtpefhfiehfkocaaGreatDoor
open Go.RowKit Go.IntWalk
theorem path_len{s:Bs}(h:pathOK s=true):s.length≤128:=by
 unfold pathOK at h
 simp only [Bool.and_eq_true,Bool.not_eq_true']at h
 have:=h.1.1
 rw [ltB_not]at this
 omega
structure Bun where
 man:Bs
 pap:List Touch
 src:List Touch
end Go.Proofs.YtpefhfiehfkocaaGreatDoor
namespace Go.Proofs.YtpefhfiehfkocaaGreatDoor
open Go.RowKit Go.IntWalk
def F_HasPrefix:List AV→Option AV
 | [.str s,.str t]=>some (.bool (t.isPrefixOf s))
 | _=>none
end Go.Proofs.YtpefhfiehfkocaaGreatDoor
namespace Go.Proofs.YtpefhfiehfkocaaGreatDoor
open Go.RowKit Go.IntWalk
end Go.Proofs.YtpefhfiehfkocaaGreatDoor
namespace Go.Proofs.YtpefhfiehfkocaaGreatDoor
open Go.RowKit Go.IntWalk
end Go.Proofs.YtpefhfiehfkocaaGreatDoor
