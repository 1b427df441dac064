/- The operations that make or turn something,in one statement. What a strings.Builder is made of: its variable,an append to its buffer,its bytes as a string. What is done to the abstract heap ahead o -/
import Derived.Test.YtpefhfiehfkocaaGreatDoorAm4
import Derived.Laws.BytesString
import Derived.Lib.ConvBytes
import Derived.Laws.AppendOwn
import Derived.Lib.UnsafeStr
import Derived.RangeFuncSeq
import Derived.RangeFuncCalls
namespace Go.Proofs.YtpefhfiehfkocaaGreatDoor
open Go.RowKit
section
variable {P:Program} {B:Base} {C D:Cx} {h:Heap} {w w':World} {G:Gam}
theorem left_val{s:Sem Value}{v:AV}{h':Heap}(k:∃ u D w',s.run P w=.ok u w'∧C.Le D∧Inv B D h' w'∧Rel D v u∧Keep B w w') :
  Left P B C w (Sem.run P (do pure (Next.value (← s))) w) v h':=by
 obtain ⟨u,D,w',k1,k2,k3,k4,k5⟩:=k
 exact ⟨.value u,u,D,w',by simp [k1],.inl rfl,k2,k3,k4,k5⟩
theorem left_unit{s:Sem Unit}{h':Heap}(k:∃ D w',s.run P w=.ok () w'∧C.Le D∧Inv B D h' w'∧Keep B w w') :
  Left P B C w (Sem.run P (do s; pure Next.skip) w) .junk h':=by
 obtain ⟨D,w',k1,k2,k3,k4⟩:=k
 exact ⟨.skip,undef,D,w',by simp [k1],.inr ⟨rfl,rfl⟩,k2,k3,.junk _,k4⟩
theorem one_val{vals:List AV}{x:Value}(h:RelL C vals [x]):∃ a,vals=[a]∧Rel C a x:=by
 cases vals with
 | nil=>simp [RelL]at h
 | cons a as=>
  obtain ⟨y,us,e,r1,r2⟩:=h.inv_cons;injection e with e1 e2; subst e1 e2
  cases as with
  | nil=>exact ⟨a,rfl,r1⟩
  | cons _ _=>simp [RelL]at r2
theorem two_vals{vals:List AV}{x y:Value}(h:RelL C vals [x,y]):∃ a b,vals=[a,b]∧Rel C a x∧Rel C b y:=by
 cases vals with
 | nil=>simp [RelL]at h
 | cons a as=>
  obtain ⟨z,us,e,r1,r2⟩:=h.inv_cons;injection e with e1 e2; subst e1 e2
  obtain ⟨b,rfl,r3⟩:=one_val r2;exact ⟨a,b,rfl,r1,r3⟩
theorem three_vals{vals:List AV}{x y z:Value}(h:RelL C vals [x,y,z]):∃ a b c,vals=[a,b,c]∧Rel C a x∧Rel C b y∧Rel C c z:=by
 cases vals with
 | nil=>simp [RelL]at h
 | cons a as=>
  obtain ⟨_,us,e,r1,r2⟩:=h.inv_cons;injection e with e1 e2; subst e1 e2
  obtain ⟨b,c,rfl,r3,r4⟩:=two_vals r2;exact ⟨a,b,c,rfl,r1,r3,r4⟩
theorem no_vals{vals:List AV}(h:RelL C vals []):vals=[]:=by
 cases vals with
 | nil=>rfl
 | cons a as=>simp [RelL]at h
theorem st_sound(hi:Inv B C h w){t:TypeId}{n:Nat}(hn:tsize P t=some n){a v:AV}{x y:Value}{h':Heap}(hx:Rel C a x)(hy:Rel C v y)(he:stAV n h a v=some h') :
  ∃ D w',(Instr.storeAt t x y).run P w=.ok () w'∧C.Le D∧Inv B D h' w'∧Keep B w w':=by
 unfold stAV at he
 split at he
 ·rename_i hc
  obtain ⟨c1,c2,c3⟩:=hc;cases a with
  | ptr l off=>
   simp only at he;split at he
   ·rename_i vs hl
    split at he
    ·rename_i hroom
     injection he with he; subst he
     obtain ⟨w',k1,k2,k3⟩:=store_ptr hi hn hx hy hl c1 c2 c3 hroom;exact ⟨C,w',k1,.refl C,k2,k3⟩
    ·cases he
   ·cases he
  | eptr l ver i off=>
   simp only at he;split at he
   ·rename_i tg sz ver' rows hl
    split at he
    ·rename_i hv; subst hv
     split at he
     ·rename_i row hrow
      split at he
      ·rename_i hroom
       injection he with he; subst he
       obtain ⟨w',k1,k2,k3⟩:=store_eptr (ne:=true) hi hn hx hy hl hrow c1 c2 c3 hroom;exact ⟨C,w',k1,.refl C,k2,k3⟩
      ·cases he
     ·cases he
    ·cases he
   split at he
   ·rename_i u h1 hf
    split at he
    ·rename_i sz ver' rows hl
     split at he
     ·rename_i hv; subst hv
      split at he
      ·rename_i row hrow
       split at he
       ·rename_i hc2
        obtain ⟨e1,e2,e3⟩:=hc2;injection he with he; subst he
        obtain ⟨D,d1,d2,d3,d4,d5⟩:=frz_sound hi hf hy;obtain ⟨w',k1,k2,k3⟩:=store_eptr (ne:=false) d2 hn (hx.mono d1) d3 hl hrow e2 c2 e3 e1;exact ⟨D,w',k1,d1,k2,k3⟩
       ·cases he
      ·cases he
     ·cases he
    ·cases he
   ·cases he
  | _=>simp at he
 ·cases he
theorem nxt_sound(hi:Inv B C h w){l:Nat}{x:Value}{ty:TypeId}{v:AV}{h':Heap}(hx:Rel C (.ptr l 0) x)(he:evalEff G h .nxt [.ptr l 0]=some (v,h')) :
  ∃ u D w',(Instr.next x true ty).run P w=.ok u w'∧C.Le D∧Inv B D h' w'∧Rel D v u∧Keep B w w':=by
 simp only [evalEff]at he
 split at he
 ·rename_i s pos hl
  cases hx with
  | ptr _ _ b hb=>
   obtain ⟨b',h1,h2,h3⟩:=hi.ok l _ hl;rw [hb]at h1; injection h1 with h1; subst h1
   split at he
   ·rename_i hp
    simp only [Option.some.injEq,Prod.mk.injEq]at he;obtain ⟨rfl,rfl⟩:=he;have hrun:(Instr.next (.pointer (some ⟨b,0,none⟩)) true ty).run P w=.ok (.tuple #[.bool true,.int .i64 pos,.int .i32 (Utf8.decode ⟨s.toArray⟩ pos).1]) (World.put w b (.stringIter ⟨s.toArray⟩ (pos+(Utf8.decode ⟨s.toArray⟩ pos).2))):=by
     simp only [Instr.next,Sem.run_bind,getObj,Sem.run,h3,Result.andThen_ok];rw [if_pos (by rw [size_ba]; exact hp)];simp [setObj,Sem.run,h3,World.put,goInt]
    refine ⟨_,C,_,hrun,.refl C,turn_obj hi hl hb (by simp [blockOf,hb]) h3 (fun c e f=>by simp) h2 ⟨b,hb,h2,put_same h3⟩ (fun b' hb'=>by simp [blockOf,hb]at hb'; exact hb'.symm) (fun _ _ _ _=>by simp),?_,put_below h2 h3 (fun c=>by simp)⟩
    exact .tup _ _ rfl (fun i c u hc hu=>by
     match i with
     | 0=>simp at hc hu; subst hc hu; exact .bool _
     | 1=>simp at hc hu; subst hc hu; exact .int _ _
     | 2=>simp at hc hu; subst hc hu; exact .int _ _
     | _+3=>simp at hc)
   ·rename_i hp
    simp only [Option.some.injEq,Prod.mk.injEq]at he;obtain ⟨rfl,rfl⟩:=he;have hrun:(Instr.next (.pointer (some ⟨b,0,none⟩)) true ty).run P w=.ok (.tuple #[.bool false]) w:=by
     simp only [Instr.next,Sem.run_bind,getObj,Sem.run,h3,Result.andThen_ok];rw [if_neg (by rw [size_ba]; exact hp)];simp
    refine ⟨_,C,_,hrun,.refl C,hi,?_,Keep.refl _ _⟩
    exact .tup _ _ rfl (fun i c u hc hu=>by
     match i with
     | 0=>simp at hc hu; subst hc hu; exact .bool _
     | _+1=>simp at hc)
 ·cases he
theorem map_inv{l:Nat}{x:Value}(h:Rel C (.map l) x):∃ b,C.bl l=some b∧x=.map (some b):=by
 cases h with
 | map _ b hb=>exact ⟨b,hb,rfl⟩
theorem nilm_inv{x:Value}(h:Rel C .nilm x):x=.map none:=by cases h; rfl
theorem tzero_run{t:TypeId}{z:List AV}(hz:tzero P t=some z)(C:Cx):∃ zv,(∀ w,(zeroValue t).run P w=.ok zv w)∧RelL C z zv.cells.toList:=by
 obtain ⟨i,zv,h1,h2,h3⟩:=tzero_rel (C:=C) hz
 exact ⟨zv,fun w=>by simp [zeroValue,typeInfo,h1,h2],h3⟩
def EffOK(P:Program)(B:Base)(C:Cx)(h:Heap)(w:World)(G:Gam)(ty:TypeId)(o:Op)(ao:AO)(xs:List Operand):Prop:=
 ∀ (vals:List AV) (v:AV) (h':Heap) (ρ:Operand→Value) (oper:Oper),(∀ u,ρ (.const u)=u)→oper.op=o→oper.type=ty→RelL C vals (xs.map ρ)→evalEff G h ao vals=some (v,h')→Left P B C w ((execOp ρ oper).run P w) v h'
theorem eff_sound(hi:Inv B C h w){own:Bool}{ty:TypeId}{o:Op}{ao:AO}{xs:List Operand}(hc:compEff P own ty o=some (ao,xs)):EffOK P B C h w G ty o ao xs:=by
 intro vals v h' ρ oper hρ hop hty hrel hev
 have ex:execOp ρ oper=execOp ρ { oper with op:=o }:=by rw [← hop]
 rw [ex]
 clear ex hop
 unfold compEff at hc
 split at hc
 ·
  rename_i e;split at hc
  ·rename_i z hz
   simp only [Option.some.injEq,Prod.mk.injEq]at hc; obtain ⟨rfl,rfl⟩:=hc;have:=no_vals hrel; subst this;simp only [evalEff,Option.some.injEq,Prod.mk.injEq]at hev; obtain ⟨rfl,rfl⟩:=hev;obtain ⟨zv,z1,z2⟩:=tzero_run hz C;obtain ⟨a1,a2,a3⟩:=add_cells hi z2 e;exact left_val ⟨_,_,_,by simp [Instr.alloc,z1,newVar,newRow],a3,a1,a2,below_of hi (below_alloc w _)⟩
  ·cases hc
 ·
  rename_i e x;simp only [Option.some.injEq,Prod.mk.injEq]at hc; obtain ⟨rfl,rfl⟩:=hc;obtain ⟨a,rfl,ha⟩:=one_val hrel;simp only [evalEff]at hev;split at hev
  ·cases hev
  ·rename_i c cs hcs
   simp only [Option.some.injEq,Prod.mk.injEq]at hev; obtain ⟨rfl,rfl⟩:=hev;have hcells:=cells_rel ha (by rw [hcs]; simp);obtain ⟨a1,a2,a3⟩:=add_cells hi hcells e;rw [hcs]at a1;exact left_val ⟨_,_,_,by simp [Instr.box,newVar,newRow],a3,a1,a2,below_of hi (below_alloc w _)⟩
 ·
  rename_i t a x;split at hc
  ·rename_i n hn
   simp only [Option.some.injEq,Prod.mk.injEq]at hc; obtain ⟨rfl,rfl⟩:=hc;obtain ⟨va,vx,rfl,h1,h2⟩:=two_vals hrel;simp only [evalEff,Option.map_eq_some_iff,Prod.mk.injEq]at hev;obtain ⟨h1',he,rfl,rfl⟩:=hev;exact left_unit (st_sound hi hn h1 h2 he)
  ·cases hc
 ·
  split at hc
  ·rename_i e he
   split at hc
   ·rename_i n hn
    simp only [Option.some.injEq,Prod.mk.injEq]at hc; obtain ⟨rfl,rfl⟩:=hc;have:=no_vals hrel; subst this;simp only [evalEff,Option.some.injEq,Prod.mk.injEq]at hev; obtain ⟨rfl,rfl⟩:=hev;obtain ⟨a1,a2,a3⟩:=add_nil hi n;refine ⟨_,_,_,w,rfl,.inl rfl,a3,a1,?_,Keep.refl _ _⟩
    rw [hρ]; exact a2
   ·cases hc
  ·cases hc
 ·
  simp only [Option.some.injEq,Prod.mk.injEq]at hc; obtain ⟨rfl,rfl⟩:=hc;have:=no_vals hrel; subst this;simp only [evalEff,Option.some.injEq,Prod.mk.injEq]at hev; obtain ⟨rfl,rfl⟩:=hev;obtain ⟨a1,a2,a3⟩:=add_map hi;exact left_val ⟨_,_,_,by simp [Instr.makeMap],a3,a1,a2,below_of hi (below_alloc w _)⟩
 ·
  rename_i t m k x;split at hc
  ·rename_i kt et ht
   split at hc
   ·rename_i e hk
    simp only [Option.some.injEq,Prod.mk.injEq]at hc; obtain ⟨rfl,rfl⟩:=hc;obtain ⟨vm,vk,vx,rfl,h1,h2,h3⟩:=three_vals hrel;cases vm with
    | map l=>
     simp only [evalEff]at hev;split at hev
     ·rename_i hkey
      split at hev
      ·rename_i u h1' hf
       split at hev
       ·rename_i es hl
        simp only [Option.map_eq_some_iff,Prod.mk.injEq]at hev;obtain ⟨es',hp,rfl,rfl⟩:=hev;exact left_unit (mapup_sound hi ht hk h1 h2 h3 hkey hf hl hp)
       ·cases hev
      ·cases hev
     ·cases hev
    | _=>simp [evalEff]at hev
   ·cases hc
  ·cases hc
 ·
  rename_i t m k x;split at hc
  ·rename_i kt et ht
   split at hc
   ·rename_i e hk
    simp only [Option.some.injEq,Prod.mk.injEq]at hc; obtain ⟨rfl,rfl⟩:=hc;obtain ⟨vm,vk,vx,rfl,h1,h2,h3⟩:=three_vals hrel;cases vm with
    | map l=>
     simp only [evalEff]at hev;split at hev
     ·rename_i hkey
      split at hev
      ·rename_i u h1' hf
       split at hev
       ·rename_i es hl
        simp only [Option.map_eq_some_iff,Prod.mk.injEq]at hev;obtain ⟨es',hp,rfl,rfl⟩:=hev;exact left_unit (mapup_sound hi ht hk h1 h2 h3 hkey hf hl hp)
       ·cases hev
      ·cases hev
     ·cases hev
    | _=>simp [evalEff]at hev
   ·cases hc
  ·cases hc
 ·
  rename_i t l c;split at hc
  ·rename_i e ht
   split at hc
   ·rename_i z b n hz hb hn
    split at hc
    ·rename_i hcc
     simp only [Option.some.injEq,Prod.mk.injEq]at hc; obtain ⟨rfl,rfl⟩:=hc;obtain ⟨vl,vc,rfl,h1,h2⟩:=two_vals hrel;cases vl <;> first | (simp [evalEff]at hev; done) | skip
     cases vc <;> first | (simp [evalEff]at hev; done) | skip
     rename_i k1 l1 k2 c1;simp only [evalEff]at hev;split at hev
     ·rename_i hcond
      simp only [Option.some.injEq,Prod.mk.injEq]at hev; obtain ⟨rfl,rfl⟩:=hev;obtain ⟨q1,q2,q3,q4⟩:=hcond;obtain ⟨D,m1,m2,m3,m4⟩:=mksl_sound hi (k1:=k1) (k2:=k2) ht hz hb hn hcc.1 hcc.2 q1 q2 q3 q4;have e1:=int_inv h1;have e2:=int_inv h2;refine left_val ⟨_,D,_,?_,m2,m3,m4,below_of hi (below_alloc w _)⟩
      rw [e1,e2]; exact m1
     ·cases hev
    ·cases hc
   ·cases hc
  ·cases hc
 ·
  rename_i t len parts;split at hc
  ·rename_i e ht
   split at hc
   ·rename_i n z hn hz
    split at hc
    ·rename_i hp
     simp only [Option.some.injEq,Prod.mk.injEq]at hc; obtain ⟨rfl,rfl⟩:=hc;exact left_val (bsl_sound hi ht hn hz hp hrel hev)
    ·cases hc
   ·cases hc
  ·cases hc
 ·
  rename_i args argTypes;split at hc
  ·rename_i s x t tx hargs htys
   have eargs:args=#[s,x]:=by rw [← Array.toList_inj]; simpa using hargs
   have etys:argTypes=#[t,tx]:=by rw [← Array.toList_inj]; simpa using htys
   subst eargs etys;have app:∀ {str:Bool} {n b:Nat} {e:TypeId} {z:List AV},P.underlying t=some (.slice e)→tsize P e=some n→tbytes P e=some b→tzero P e=some z→z.length=n→
     (str=true→P.underlying tx=some .string∧n=1)→(str=false→∃ e,P.underlying tx=some (.slice e))→RelL C vals ([s,x].map ρ)→evalEff G h (.app str n b) vals=some (v,h')→
     Left P B C w ((execOp ρ { oper with op:=.call { callee:=.builtin .append,args:=#[s,x],argTypes:=#[t,tx] } }).run P w) v h':=by
    intro str n b e z ht hn hb hz hzl k1 k2 hrel hev;obtain ⟨vs,vx,rfl,h1,h2⟩:=two_vals hrel;simp only [evalEff]at hev;split at hev
    ·rename_i new hnew
     split at hev
     ·rename_i hsz
      have:=app_sound (ty:=oper.type) hi ht hn hb hz hzl h1 h2 hnew hsz k1 k2 (tagOK_none e) hev;have em:#[s,x].map ρ=#[ρ s,ρ x]:=by simp
      rw [← em]at this;exact left_val this
     ·cases hev
    ·cases hev
   split at hc
   ·rename_i e ht
    split at hc
    ·rename_i n b z e2 hn hb hz htx
     split at hc
     ·rename_i hcc
      simp only [Option.some.injEq,Prod.mk.injEq]at hc; obtain ⟨rfl,rfl⟩:=hc;exact app ht hn hb hz hcc.2 (fun e=>by cases e) (fun _=>⟨e2,htx⟩) hrel hev
     ·cases hc
    ·rename_i n b z hn hb hz htx
     split at hc
     ·rename_i hcc
      simp only [Option.some.injEq,Prod.mk.injEq]at hc; obtain ⟨rfl,rfl⟩:=hc;exact app ht hn hb hz hcc.2 (fun _=>⟨htx,hcc.1⟩) (fun e=>by cases e) hrel hev
     ·cases hc
    ·cases hc
   ·cases hc
  ·cases hc
 ·
  rename_i t x;split at hc
  ·rename_i ht
   simp only [Option.some.injEq,Prod.mk.injEq]at hc; obtain ⟨rfl,rfl⟩:=hc;obtain ⟨a,rfl,ha⟩:=one_val hrel;cases a <;> first | (simp [evalEff]at hev; done) | skip
   rename_i s;simp only [evalEff,Option.some.injEq,Prod.mk.injEq]at hev; obtain ⟨rfl,rfl⟩:=hev;obtain ⟨a1,a2,a3⟩:=add_iter hi s;have e1:=str_inv ha;refine left_val ⟨_,_,_,?_,a3,a1,a2,below_of hi (below_alloc w _)⟩
   rw [e1]; simp [Instr.range,run_underlying ht]
  ·rename_i kt et ht
   simp only [Option.some.injEq,Prod.mk.injEq]at hc; obtain ⟨rfl,rfl⟩:=hc;obtain ⟨a,rfl,ha⟩:=one_val hrel;cases a <;> first | (simp [evalEff]at hev; done) | skip
   case map m=>
    simp only [evalEff]at hev;split at hev
    ·rename_i es hl
     simp only [Option.some.injEq,Prod.mk.injEq]at hev; obtain ⟨rfl,rfl⟩:=hev;obtain ⟨bm,hbm,e1⟩:=map_inv ha;obtain ⟨b',ms,ck,h1,h2,h3,h4,h5,h6,h7⟩:=hi.ok m _ hl;rw [hbm]at h1; injection h1 with h1; subst h1
     obtain ⟨a1,a2,a3⟩:=add_mit hi (m:=some m) (mo:=some bm) es.length es.length ⟨bm,hbm,rfl⟩;refine left_val ⟨_,_,_,?_,a3,a1,a2,below_of hi (below_alloc w _)⟩
     rw [e1];have hk:ck=es.length:=by omega
     subst hk;simp [Instr.range,run_underlying ht,getObj,Sem.run,h3]
    ·cases hev
   case nilm=>
    simp only [evalEff,Option.some.injEq,Prod.mk.injEq]at hev; obtain ⟨rfl,rfl⟩:=hev;have e1:=nilm_inv ha;obtain ⟨a1,a2,a3⟩:=add_mit hi (m:=none) (mo:=none) 0 0 rfl;refine left_val ⟨_,_,_,?_,a3,a1,a2,below_of hi (below_alloc w _)⟩
    rw [e1];simp [Instr.range,run_underlying ht]
  ·cases hc
 ·
  rename_i it;simp only [Option.some.injEq,Prod.mk.injEq]at hc; obtain ⟨rfl,rfl⟩:=hc;obtain ⟨a,rfl,ha⟩:=one_val hrel;cases a with
  | ptr l off=>
   cases off with
   | zero=>exact left_val (nxt_sound (G:=G) hi ha hev)
   | succ _=>simp [evalEff]at hev
  | _=>simp [evalEff]at hev
 ·cases hc
theorem bytes_flat:∀ {rows:List (List AV)} {bs:List UInt8},bytesOfRows rows=some bs→rows.flatten=bs.map (fun b=>AV.int .u8 b.toNat)∧sizesOk 1 rows=true
 | [],bs,h=>by simp only [bytesOfRows,Option.some.injEq]at h; subst h; exact ⟨rfl,rfl⟩
 | row::r,bs,h=>by
  unfold bytesOfRows at h;split at h
  ·rename_i h1; cases h1
  ·rename_i n r' h1
   injection h1 with h1 h2; subst h1 h2
   split at h
   ·rename_i hn
    simp only [Option.map_eq_some_iff]at h;obtain ⟨bs',h3,rfl⟩:=h;obtain ⟨h4,h5⟩:=bytes_flat h3;have e:((UInt8.ofNat n.toNat).toNat:Int)=n:=by
     rw [UInt8.toNat_ofNat'];have:n.toNat<256:=by omega
     rw [show 2 ^ 8=256 from rfl,Nat.mod_eq_of_lt this]; omega
    refine ⟨by simp only [List.flatten_cons,h4,List.map_cons,List.cons_append,List.nil_append,e],by simp [sizesOk,h5]⟩
   ·cases h
  ·cases h
theorem bytes_news:∀ {bs:List UInt8} {news:List Value},RelL C (bs.map fun b=>AV.int .u8 b.toNat) news→news=(bs.map fun b=>(b.toNat:Int)).map (Value.int .u8)
 | [],news,h=>by
  have:=h.1;cases news with
  | nil=>rfl
  | cons _ _=>simp at this
 | b::bs,news,h=>by
  obtain ⟨y,us,rfl,r1,r2⟩:=h.inv_cons;rw [int_inv r1,bytes_news r2]; rfl
theorem push_all:∀ (bs:List UInt8) (s:ByteArray),(bs.map fun b=>(b.toNat:Int)).foldl (fun r n=>r.push (UInt8.ofNat n.toNat)) s=⟨s.data++bs.toArray⟩
 | [],s=>by simp
 | b::bs,s=>by
  simp only [List.map_cons,List.foldl_cons];rw [push_all bs];refine ByteArray.ext ?_
  simp [ByteArray.push]
theorem s2b_sound(hi:Inv B C h w){src dst e:TypeId}(hs:P.underlying src=some .string)(hd:P.underlying dst=some (.slice e))(he:P.underlying e=some (.int .u8)){s:List UInt8}(hb:s.length≤byteMax) :
  ∃ u D w',(convert src dst (.string ⟨s.toArray⟩)).run P w=.ok u w'∧C.Le D∧Inv B D (h++[.arr 1 0 (s.map fun b=>[AV.int .u8 b.toNat]) true]) w'∧Rel D (.own h.length 0 s.length) u∧Keep B w w':=by
 have hsz:(⟨s.toArray⟩:ByteArray).size=s.length:=rfl
 have hge:=grownCap_ge w s.length 0 e
 have hmx:=grownCap_le_maxLen w s.length 0 e (by unfold byteMax at hb; unfold maxLen; omega)
 have hrun:=Lib.run_convert_string_bytes (P:=P) w src dst e ⟨s.toArray⟩ hs hd he
 have hnew:=Lib.bytesWorld_at_new w e ⟨s.toArray⟩
 have hcs:(Lib.bytesCells w e ⟨s.toArray⟩).size=grownCap w s.length 0 e:=by
  simp [Lib.bytesCells,hsz]; omega
 have htl:(Lib.bytesCells w e ⟨s.toArray⟩).toList.take s.length=s.map fun b=>Value.int .u8 b.toNat:=by
  simp [Lib.bytesCells,hsz]
 rw [hcs]at hnew
 rw [hsz]at hrun
 have hbel:Below w.heap.size w (Lib.bytesWorld w e ⟨s.toArray⟩):=⟨rfl,rfl,rfl,by rw [Lib.bytesWorld_size]; omega,fun k hk=>Lib.bytesWorld_at_old w e _ k hk⟩
 have hfl:∀ t:List UInt8,(t.map fun b=>[AV.int .u8 (b.toNat:Int)]).flatten=t.map fun b=>AV.int .u8 b.toNat:=by
  intro t;induction t with
  | nil=>rfl
  | cons b r ih=>simp [ih]
 have hrel:∀ t:List UInt8,RelL (Cx.pure C.im) (t.map fun b=>AV.int .u8 b.toNat) (t.map fun b=>Value.int .u8 b.toNat):=by
  intro t;induction t with
  | nil=>exact .nil
  | cons b r ih=>exact .cons (.int .u8 _) ih
 obtain ⟨b1,b2,b3⟩:=add_arrV (cv:=true) hi (rows:=s.map fun b=>[AV.int .u8 b.toNat]) (cur:=Lib.bytesCells w e ⟨s.toArray⟩) (e:=e) (size:=1) (cap:=grownCap w s.length 0 e) hbel (by rw [hnew]; simp [RowAt.fz]) (by simpa using hge) hmx
  (fun row hr=>by obtain ⟨b,_,rfl⟩:=List.mem_map.1 hr; rfl) (by rw [hcs,Nat.mul_one]) (by rw [List.length_map,Nat.mul_one,htl,hfl s]; exact hrel s) (fun u hu=>by
   rw [List.length_map,Nat.mul_one,htl]at hu;obtain ⟨b,_,rfl⟩:=List.mem_map.1 hu; rfl) (tagArr_none e _)
 rw [List.length_map]at b2
 exact ⟨_,_,_,hrun,b3,b1,b2,below_of hi hbel⟩
theorem b2s_sound(hi:Inv B C h w){src dst e:TypeId}(hs:P.underlying src=some (.slice e))(he:P.underlying e=some (.int .u8))(hd:P.underlying dst=some .string){a:AV}{x:Value}{rows:List (List AV)}{bs:List UInt8}
  (hx:Rel C a x) (hr:rowsOf h a=some rows) (hb:bytesOfRows rows=some bs):(convert src dst x).run P w=.ok (.string ⟨bs.toArray⟩) w:=by
 obtain ⟨hf,hz⟩:=bytes_flat hb
 obtain ⟨news,h1,h2⟩:=src_of (tx:=src) (str:=false) hi hx (by simpa [appRows] using hr) hz (fun e=>by cases e) (fun _=>⟨e,hs⟩)
 rw [hf]at h2
 have hn:=bytes_news h2
 have hsl:∃ p l c,x=.slice p l c:=by
  cases a <;> first | (simp [rowsOf]at hr; done) | skip
  all_goals cases hx <;> exact ⟨_,_,_,rfl⟩
 obtain ⟨p,l,c,rfl⟩:=hsl
 rw [run_convert_bytes_string w src dst e p l c hs he hd]
 have hl:l=rows.length:=by
  have:=h1.len w;simp [Builtin.lenOf]at this;exact this
 cases p with
 | none=>
  have h3:=h1.cells;have h4:=h1.newsLen;rw [run_firstCells_none]at h3;simp only [Result.ok.injEq,and_true]at h3;have h5:news=[]:=by
   have:=congrArg Array.toList h3;simpa using this.symm
  rw [h5]at hn;have hbs:bs=[]:=by
   cases bs with
   | nil=>rfl
   | cons _ _=>simp at hn
  subst hbs;simp [Conv.bytesToString];rfl
 | some ad=>
  have h3:=h1.cells;simp only [Builtin.firstCells,Nat.mul_one]at h3;rw [← hl,hn]at h3;rw [run_bytesToString w ad l c _ h3,push_all];simp [ByteArray.empty,ByteArray.emptyWithCapacity];rfl
theorem cpy_sound(hi:Inv B C h w){t tx ty e:TypeId}{n:Nat}{str:Bool}(ht:P.underlying t=some (.slice e))(hn:tsize P e=some n){l ver m:Nat}{a:AV}{x y:Value}{v:AV}{h':Heap}
  (hx:Rel C (.own l ver m) x) (hy:Rel C a y) (hk:str=true→P.underlying tx=some .string∧n=1) (hk':str=false→∃ e,P.underlying tx=some (.slice e))
  (he:evalEff G h (.cpy str n) [.own l ver m,a]=some (v,h')) :
  ∃ u D w',(Builtin.copy_ #[t,tx] ty #[x,y]).run P w=.ok u w'∧C.Le D∧Inv B D h' w'∧Rel D v u∧Keep B w w':=by
 simp only [evalEff]at he
 split at he
 ·rename_i sr hsr
  split at he
  ·rename_i hs
   obtain ⟨news,s1,s2⟩:=src_of (tx:=tx) hi hy hsr hs hk hk';have hall:=sizesOk_all hs;have hsf:=flatten_len sr hall;split at he
   ·rename_i hnil
    subst hnil;simp only [Option.some.injEq,Prod.mk.injEq]at he; obtain ⟨rfl,rfl⟩:=he;have hnews:news=[]:=List.eq_nil_of_length_eq_zero (by rw [s1.newsLen]; simp);subst hnews;have hl0:=s1.len w;have hc0:=s1.cells;simp only [List.length_nil]at hl0 hc0;refine ⟨.int .i64 0,C,w,?_,.refl C,hi,.int _ _,.refl _ _⟩
    cases hx <;> simp [Builtin.copy_,run_underlying ht,run_sizeOf' hn,hl0,hc0,storeCells,goInt]
   ·rename_i hne
    split at he
    ·rename_i sz ver' rows hl
     split at he
     ·rename_i hc
      obtain ⟨rfl,c1,c2,rfl⟩:=hc;simp only [Option.some.injEq,Prod.mk.injEq]at he; obtain ⟨rfl,rfl⟩:=he;have hpos:0<sr.length:=List.length_pos_iff.2 hne;cases hx with
      | ownnil _ _ h1=>omega
      | own _ _ _ r h1 hcap=>
       rcases hi.ok l _ hl with ⟨k1,_⟩ | ⟨r',cur,k1,k2,k3,k4,k5,k6,k7,k8,k8',k9,k10,k11⟩
       ·rw [h1]at k1; cases k1
       ·rw [h1]at k1; injection k1 with k1; injection k1 with k1; subst k1
        obtain ⟨k11,k12⟩:=k11;subst k11;have hm:sr.length*r.size≤rows.length*r.size:=Nat.mul_le_mul_right _ (by omega);have hm2:rows.length*r.size≤cur.size:=by rw [k7]; exact Nat.mul_le_mul_right _ k3
        have hnl:=s1.newsLen;have hst:=row_store (P:=P) k6 k7 0 news (by omega) s1.one;have hfl:=flatten_len rows k5;have hdrop:(rows.drop sr.length).flatten=rows.flatten.drop (sr.length*r.size):=by
         have e1:rows.flatten=(rows.take sr.length).flatten++(rows.drop sr.length).flatten:=by rw [← List.flatten_append,List.take_append_drop]
         have e2:(rows.take sr.length).flatten.length=sr.length*r.size:=by rw [flatten_len (n:=r.size) _ (fun x hx=>k5 x (List.mem_of_mem_take hx)),List.length_take,Nat.min_eq_left (by omega)]
         conv=>rhs; rw [e1,List.drop_append,List.drop_of_length_le (by omega),e2,Nat.sub_self]
         simp
        have hnew:(sr++rows.drop sr.length).flatten=rows.flatten.take 0++sr.flatten++rows.flatten.drop (0+sr.flatten.length):=by
         rw [List.flatten_append,hdrop,hsf]; simp
        have hlen:(sr++rows.drop sr.length).length=rows.length:=by simp; omega
        have hmin:Nat.min sr.length m=sr.length:=Nat.min_eq_left c2;refine ⟨.int .i64 sr.length,C,w.setRow r.block (cur.toList.take 0++news++cur.toList.drop (0+news.length)).toArray,?_,.refl C,?_,.int _ _,below_setRow k2 _⟩
        ·have hsz:(sizeOf e:Sem Nat).run P w=.ok r.size w:=run_sizeOf' hn w
         simp at hst;simp [Builtin.copy_,run_underlying ht,hsz,s1.len w,hmin,s1.cells,goInt,hst]
        ·have htake:(cur.toList.take 0++news++cur.toList.drop (0+news.length)).take (rows.length*r.size)=
           (cur.toList.take (rows.length*r.size)).take 0++news++(cur.toList.take (rows.length*r.size)).drop (0+news.length):=by
          simp only [List.take_zero,List.nil_append,Nat.zero_add];rw [List.take_append,List.take_of_length_le (by omega),List.drop_take]
         refine hi.turn hl (.refl C) (by simp) (fun b' hb' _=>⟨setRow_other w r.block b' _ (fun e=>hb' (by simp [blockOf,h1,e])),fun _=>rfl⟩) (fun b' o u' hu=>?_) hi.one ?_ (fun b' hb'=>.inl hb') hi.fr (arr_fv hi hl)
         ·have hne:b'≠r.block:=fun e=>by subst e; rw [k9 rfl o]at hu; cases hu
          rw [cell_setRow_other w r.block _ ⟨b',o,none⟩ hne]; exact hi.im _ _ _ hu
         ·refine .inr ⟨r,_,h1,k2,by rw [hlen]; exact k3,k4,fun x hx=>?_,heap_setRow k6,?_,?_,fun x hx=>?_,k9,(fun e=>by cases e),rfl,k12.len (by rw [hlen]; exact Nat.le_refl _)⟩
          ·rcases List.mem_append.1 hx with hx | hx
           ·exact hall x hx
           ·exact k5 x (List.mem_of_mem_drop hx)
          ·simp; omega
          ·rw [hnew,hlen]
           simp only;rw [htake];exact relL_splice k8 s2 0
          ·rw [hlen]at hx
           simp only at hx;rw [htake]at hx;simp only [List.mem_append]at hx;rcases hx with (hx | hx) | hx
           ·exact k8' x (List.mem_of_mem_take hx)
           ·exact s1.one x hx
           ·exact k8' x (List.mem_of_mem_drop hx)
     ·cases he
    ·cases he
  ·cases he
 ·cases he
theorem slcPre_sound{t e:TypeId}{n:Nat}(ht:P.underlying t=some (.slice e))(hs:tsize P e=some n){a v:AV}{x:Value}(hx:Rel C a x)(lo hi' mx:Option (IntKind×Int))
  (hev:slcPre n a (bndI lo) (bndI hi') (bndI mx)=some v):∃ u,Rel C v u∧∀ w,(Instr.sliceAt t x (bnd lo) (bnd hi') (bnd mx)).run P w=.ok u w:=by
 cases a <;> first | exact slice_sound (size:=some n) ⟨e,ht,hs⟩ hx lo hi' mx hev | skip
 rename_i l ver m
 simp only [slcPre]at hev
 split at hev
 ·rename_i hc
  obtain ⟨c0,c1,c2,c3⟩:=hc;injection hev with hev; subst hev
  cases mx with
  | some q=>simp [bndI]at c0
  | none=>
   have hshape:∃ p cap,x=.slice p m cap∧m≤cap∧(p=none∨∃ b,p=some ⟨b,0,none⟩)∧Rel C (.own l ver ((bndI hi').getD m).toNat) (.slice p ((bndI hi').getD m).toNat cap):=by
    cases hx with
    | ownnil _ _ h1=>
     refine ⟨none,0,rfl,Nat.le_refl _,.inl rfl,?_⟩
     have e0:((bndI hi').getD (↑(0:Nat))).toNat=0:=by omega
     rw [e0]; exact .ownnil _ _ h1
    | own _ _ _ r h1 hcap=>exact ⟨_,r.cap,rfl,hcap,.inr ⟨_,rfl⟩,.own _ _ _ r h1 (by omega)⟩
   obtain ⟨p,cap,rfl,hcap,hp,hrel⟩:=hshape;have hb:=run_bounds (P:=P) true m cap lo hi' hcap (by omega) (by rw [c1]; exact c2) c3;refine ⟨_,hrel,fun w=>?_⟩
   have hb':=hb w;simp only [Instr.sliceAt,Sem.run_bind,run_underlying ht,Result.andThen_ok,Instr.slice];rw [show bnd (none:Option (IntKind×Int))=none from rfl,hb'];simp only [Result.andThen_ok,run_sizeOf' hs,Sem.run_pure,c1];have hm:p.map (fun q=>q.add (0*n))=p:=by
    rcases hp with rfl | ⟨b,rfl⟩
    ·rfl
    ·simp [Addr.add_lit]
   simp only [Int.toNat_zero,hm,ite_self,Nat.sub_zero]
 ·cases hev
theorem slcf_sound(hi:Inv B C h w){t e:TypeId}{n:Nat}(ht:P.underlying t=some (.slice e))(hs:tsize P e=some n){a v:AV}{x:Value}{h':Heap}(hx:Rel C a x)(lo hi' mx:Option (IntKind×Int))
  (hev:slcOwn n h a (bndI lo) (bndI hi') (bndI mx)=some (v,h')):∃ u D,(Instr.sliceAt t x (bnd lo) (bnd hi') (bnd mx)).run P w=.ok u w∧C.Le D∧Inv B D h' w∧Rel D v u:=by
 unfold slcOwn at hev
 split at hev
 ·rename_i v' hv'
  simp only [Option.some.injEq,Prod.mk.injEq]at hev; obtain ⟨rfl,rfl⟩:=hev;obtain ⟨u,h1,h2⟩:=slcPre_sound ht hs hx lo hi' mx hv';exact ⟨u,C,h2 w,.refl C,hi,h1⟩
 ·cases a <;> first | (cases hev; done) | skip
  rename_i l ver m;simp only at hev;split at hev
  ·rename_i rows h1 hf
   simp only [Option.map_eq_some_iff,Prod.mk.injEq]at hev;obtain ⟨v',hv',rfl,rfl⟩:=hev;obtain ⟨D,d1,d2,d3,d4,d5⟩:=frz_sound hi hf hx;obtain ⟨u,k1,k2⟩:=rows_sound ht hs d3 lo hi' mx hv';exact ⟨u,D,k2 w,d1,d2,k1.mono D.frozen_le⟩
  ·cases hev
end
end Go.Proofs.YtpefhfiehfkocaaGreatDoor
namespace Go.Proofs.YtpefhfiehfkocaaGreatDoor
open Go.RowKit
section
variable {P:Program} {B:Base} {C D:Cx} {h:Heap} {w w':World} {G:Gam}
def bufOf1(P:Program)(e:TypeId):Option TypeId:=match P.underlying e with
 | some (.struct fs)=>match fs.toList with
  | [f0,f1]=>match P.underlying f0.type,P.underlying f1.type with
   | some (.pointer e'),some (.slice eb)=>if e'=e∧tsize P eb=some 1 then some eb else none
   | _,_=>none
  | _=>none
 | _=>none
def bufOf(P:Program)(e:TypeId):Option TypeId:=match bufOf1 P e with
 | some eb=>some eb
 | none=>match P.underlying e with
  | some (.struct fs)=>match fs.toList with
   | [g]=>bufOf1 P g.type
   | _=>none
  | _=>none
def compB(P:Program)(own:Bool):Op→Option (AO×List Operand)
 | .alloc e=>match tzero P e,bufOf P e with
  | some [.nilp,.nils],some eb=>some (.allocB e eb,[])
  | _,_=>none
 | .box e x=>match bufOf P e with
  | some eb=>some (.boxB e eb,[x])
  | none=>none
 | .call { callee:=.builtin .append,args,argTypes }=>if own then (match args.toList,argTypes.toList with
  | [s,x],[t,tx]=>match P.underlying t with
   | some (.slice e)=>match tsize P e,tbytes P e,tzero P e,P.underlying tx with
    | some n,some b,some z,some (.slice _)=>if z.length=n then some (.appT false n b e,[s,x])else none
    | some n,some b,some z,some .string=>if n=1∧z.length=n then some (.appT true n b e,[s,x])else none
    | _,_,_,_=>none
   | _=>none
  | _,_=>none)else none
 | .call { callee:=.builtin .unsafeSliceData,args,.. }=>match args.toList with
  | [x]=>some (.usd,[x])
  | _=>none
 | .call { callee:=.builtin .unsafeString,args,argTypes }=>match args.toList,argTypes.toList with
  | [p,n],[pt,_]=>match P.underlying pt with
   | some (.pointer e)=>if P.cellsOf e=1 then some (.ustr e,[p,n])else none
   | _=>none
  | _,_=>none
 | _=>none
theorem cell_freeze(w:World)(p:Addr)(n:Nat)(a:Addr):(w.freeze p n).cell? a=w.cell? a:=by
 unfold World.freeze
 split
 ·rfl
 ·simp only [World.cell?,Array.getElem?_modify]
  by_cases e:p.block=a.block
  ·rw [if_pos e]
   cases hb:w.heap[a.block]? with
   | none=>rfl
   | some o=>cases o <;> rfl
  ·rw [if_neg e]
theorem freeze_other(w:World)(p:Addr)(n k:Nat)(hk:k≠p.block):(w.freeze p n).heap[k]?=w.heap[k]?:=by
 unfold World.freeze
 split
 ·rfl
 ·simp only [Array.getElem?_modify]
  rw [if_neg (fun e=>hk e.symm)]
theorem freeze_keep{n:Nat}(w:World){p:Addr}(hp:n≤p.block)(k:Nat):Keep n w (w.freeze p k):=
 ⟨Lib.below_freeze (Below.refl n w) hp k,fun i c x=>by
  by_cases e:i=p.block
  ·subst e
   unfold World.freeze;split
   ·exact x
   ·simp only [Array.getElem?_modify,if_true,x]; rfl
  ·rw [freeze_other w p k i e]; exact x⟩
theorem ustr_sound(hi:Inv B C h w){pt it ty e:TypeId}(hp:P.underlying pt=some (.pointer e))(hc:P.cellsOf e=1){l ver:Nat}{rows:List (List AV)}{bs:List UInt8}{x:Value}
  (hl:h[l]?=some (.arrT (some e) 1 ver rows true)) (hx:Rel C (.eptr l ver 0 0) x) (h0:0<rows.length) (hmx:rows.length≤byteMax) (hb:bytesOfRows rows=some bs) :
  ∃ u D w',(Builtin.unsafeString_ #[pt,it] ty #[x,.int .i64 rows.length]).run P w=.ok u w'∧C.Le D∧Inv B D (h.set l .dead) w'∧Rel D (.str bs) u∧Keep B w w':=by
 cases hx with
 | eptr _ _ _ _ r hr=>
  rcases hi.ok l _ hl with ⟨k1,k2⟩ | ⟨r',cur,k1,k2,k3,k4,k5,k6,k7,k8,k8',k9,k10,k11,k12⟩
  ·rw [hr]at k1; cases k1
  ·rw [hr]at k1; injection k1 with k1; injection k1 with k1; subst k1
   have hel:=k12.1 e rfl;obtain ⟨hf,hz⟩:=bytes_flat hb;have hfl:=flatten_len rows k5;rw [k11,Nat.mul_one]at hfl k8 k7;have hbl:bs.length=rows.length:=by
    have:=congrArg List.length hf;simp only [List.length_map]at this; omega
   rw [hf]at k8;have hn:=bytes_news k8;have hrun:=Lib.run_unsafeString_row (P:=P) w pt it ty e hp hc r.block cur.size (by simp [World.shape?,k6,hel]) bs (by intro e; subst e; simp at hbl; omega) (by omega) (by unfold byteMax at hmx; omega) (fun j x hj=>by
    have hj':j<bs.length:=(List.getElem?_eq_some_iff.1 hj).1;have h1:(cur.toList.take rows.length)[j]?=some (.int .u8 x.toNat):=by rw [hn]; simp [hj]
    rw [List.getElem?_take,if_pos (by omega)]at h1;rw [Addr.add_lit,Nat.zero_add];have:=cell_of_heap k6 j;simp only [Array.getElem?_toList]at h1;exact this.trans h1)
   refine ⟨.string ⟨bs.toArray⟩,C,w.freeze ⟨r.block,0,none⟩ bs.length,?_,.refl C,?_,.str _,freeze_keep w k2 _⟩
   ·rw [hbl]at hrun
    simpa [hbl] using hrun
   ·refine hi.turn hl (.refl C) ?_ (fun b hb2 _=>⟨freeze_other w _ _ b (fun e=>hb2 (by simp [blockOf,hr,e])),fun _=>rfl⟩) (fun b o u hu=>by rw [cell_freeze]; exact hi.im _ _ _ hu) hi.one trivial (fun b hb2=>by cases hb2) hi.fr (fun k ne tg sz ver2 rows2 wr2 hk v hv=>?_)
    ·exact (freeze_keep (n:=B) w (p:=⟨r.block,0,none⟩) k2 bs.length).below.size
    ·rw [List.getElem?_set]at hk
     split at hk
     ·split at hk
      ·cases hk
      ·cases hk
     ·exact hi.fv k ne tg sz ver2 rows2 wr2 hk v hv
theorem B_sound(hi:Inv B C h w){own:Bool}{o:Op}{ao:AO}{xs:List Operand}(hc:compB P own o=some (ao,xs)){vals:List AV}{v:AV}{h':Heap}{ρ:Operand→Value}{oper:Oper}
  (hop:oper.op=o) (hrel:RelL C vals (xs.map ρ)) (hev:evalAO G h ao vals=some (v,h')):Left P B C w ((execOp ρ oper).run P w) v h':=by
 have ex:execOp ρ oper=execOp ρ { oper with op:=o }:=by rw [← hop]
 rw [ex]
 clear ex hop
 unfold compB at hc
 split at hc
 ·
  rename_i e;split at hc
  ·rename_i eb hz h0
   simp only [Option.some.injEq,Prod.mk.injEq]at hc; obtain ⟨rfl,rfl⟩:=hc;have:=no_vals hrel; subst this;simp only [evalAO,AO.quiet,Bool.false_eq_true,if_false,evalEff,Option.some.injEq,Prod.mk.injEq]at hev; obtain ⟨rfl,rfl⟩:=hev;obtain ⟨zv,z1,z2⟩:=tzero_run hz C;obtain ⟨a1,a2,a3⟩:=add_nilT hi (some eb) 1;have z3:RelL (C.addAr h.length 0 none) [.nilp,.own h.length 0 0] zv.cells.toList:=by
    obtain ⟨v1,us1,e1,r1,r2⟩:=z2.inv_cons;obtain ⟨v2,us2,rfl,r3,r4⟩:=r2.inv_cons;have:=r4.inv_nil; subst this;rw [e1];cases r3
    exact .cons (r1.mono a3) (.cons a2 .nil)
   obtain ⟨b1,b2,b3⟩:=add_cellsT a1 z3 e (tg:=some e) (fun t ht=>by injection ht);rw [List.length_append,List.length_singleton]at b2;rw [List.length_append,List.length_singleton]at b1 b3;exact left_val ⟨_,_,_,by simp [Instr.alloc,z1,newVar,newRow],a3.trans b3,b1,b2,below_of hi (below_alloc w _)⟩
  ·cases hc
 ·
  rename_i e x;split at hc
  ·rename_i eb h0
   simp only [Option.some.injEq,Prod.mk.injEq]at hc; obtain ⟨rfl,rfl⟩:=hc;obtain ⟨a,rfl,ha⟩:=one_val hrel;simp only [evalAO,AO.quiet,Bool.false_eq_true,if_false,evalEff]at hev;unfold boxBAV at hev;split at hev
   case h_2=>cases hev
   simp only [Option.some.injEq,Prod.mk.injEq]at hev; obtain ⟨rfl,rfl⟩:=hev;obtain ⟨a1,a2,a3⟩:=add_nilT hi (some eb) 1;have z2:=cells_rel ha (by simp [AV.cells]);have z3:RelL (C.addAr h.length 0 none) [.nilp,.own h.length 0 0] (ρ x).cells.toList:=by
    obtain ⟨v1,us1,e1,r1,r2⟩:=z2.inv_cons;obtain ⟨v2,us2,rfl,r3,r4⟩:=r2.inv_cons;have:=r4.inv_nil; subst this;rw [e1];cases r3
    exact .cons (r1.mono a3) (.cons a2 .nil)
   obtain ⟨b1,b2,b3⟩:=add_cellsT a1 z3 e (tg:=some e) (fun t ht=>by injection ht);rw [List.length_append,List.length_singleton]at b2;rw [List.length_append,List.length_singleton]at b1 b3;exact left_val ⟨_,_,_,by simp [Instr.box,newVar,newRow],a3.trans b3,b1,b2,below_of hi (below_alloc w _)⟩
  ·cases hc
 ·
  rename_i args argTypes;split at hc
  ·split at hc
   ·rename_i s x t tx hargs htys
    have eargs:args=#[s,x]:=by rw [← Array.toList_inj]; simpa using hargs
    have etys:argTypes=#[t,tx]:=by rw [← Array.toList_inj]; simpa using htys
    subst eargs etys;have app:∀ {str:Bool} {n b:Nat} {e:TypeId} {z:List AV},P.underlying t=some (.slice e)→tsize P e=some n→tbytes P e=some b→tzero P e=some z→z.length=n→
      (str=true→P.underlying tx=some .string∧n=1)→(str=false→∃ e,P.underlying tx=some (.slice e))→RelL C vals ([s,x].map ρ)→evalAO G h (.appT str n b e) vals=some (v,h')→
      Left P B C w ((execOp ρ { oper with op:=.call { callee:=.builtin .append,args:=#[s,x],argTypes:=#[t,tx] } }).run P w) v h':=by
     intro str n b e z ht hn hb hz hzl k1 k2 hrel hev;obtain ⟨vs,vx,rfl,h1,h2⟩:=two_vals hrel;simp only [evalAO,AO.quiet,Bool.false_eq_true,if_false,evalEff]at hev;split at hev
     ·rename_i new hnew
      split at hev
      ·rename_i hsz
       have:=app_sound (ty:=oper.type) hi ht hn hb hz hzl h1 h2 hnew hsz k1 k2 (te:=some e) (fun t ht=>by injection ht) hev;have em:#[s,x].map ρ=#[ρ s,ρ x]:=by simp
       rw [← em]at this;exact left_val this
      ·cases hev
     ·cases hev
    split at hc
    ·rename_i e ht
     split at hc
     ·rename_i n b z e2 hn hb hz htx
      split at hc
      ·rename_i hcc
       simp only [Option.some.injEq,Prod.mk.injEq]at hc; obtain ⟨rfl,rfl⟩:=hc;exact app ht hn hb hz hcc (fun e=>by cases e) (fun _=>⟨e2,htx⟩) hrel hev
      ·cases hc
     ·rename_i n b z hn hb hz htx
      split at hc
      ·rename_i hcc
       simp only [Option.some.injEq,Prod.mk.injEq]at hc; obtain ⟨rfl,rfl⟩:=hc;exact app ht hn hb hz hcc.2 (fun _=>⟨htx,hcc.1⟩) (fun e=>by cases e) hrel hev
      ·cases hc
     ·cases hc
    ·cases hc
   ·cases hc
  ·cases hc
 ·
  rename_i args argTypes;split at hc
  ·rename_i x hargs
   have eargs:args=#[x]:=by rw [← Array.toList_inj]; simpa using hargs
   subst eargs;simp only [Option.some.injEq,Prod.mk.injEq]at hc; obtain ⟨rfl,rfl⟩:=hc;obtain ⟨a,rfl,ha⟩:=one_val hrel;simp only [evalAO,AO.quiet,if_true]at hev;have em:#[x].map ρ=#[ρ x]:=by simp
   cases a <;> first | (simp [evalPure]at hev; done) | skip
   case nils=>
    simp only [evalPure,Option.some.injEq,Prod.mk.injEq]at hev; obtain ⟨rfl,rfl⟩:=hev;have hxx:ρ x=.slice none 0 0:=by generalize hy:ρ x=y at ha; cases ha; rfl
    have:=Lib.run_unsafeSliceData_nil (P:=P) (w:=w) argTypes oper.type 0 0;rw [← hxx,← em]at this;exact left_val ⟨_,C,w,this,.refl C,hi,.nilp,.refl _ _⟩
   case own l ver n=>
    simp only [evalPure]at hev;split at hev
    ·rename_i q hq
     split at hq
     ·rename_i h0
      subst h0;split at hq
      ·rename_i tge sz ver' wr hl
       split at hq
       ·rename_i hver
        subst hver;injection hq with hq; subst hq
        simp only [Option.some.injEq,Prod.mk.injEq]at hev; obtain ⟨rfl,rfl⟩:=hev;have hxx:ρ x=.slice none 0 0:=by
         generalize hy:ρ x=y at ha;cases ha with
         | ownnil _ _ _=>rfl
         | own _ _ _ r hr hcap=>
          rcases hi.ok l _ hl with ⟨k1,_⟩ | ⟨r',cur,k1,k2,k3,k4,k5,k6,k7,k8,k8',k9,k10,k11,k12⟩
          ·rw [hr]at k1; cases k1
          ·exact absurd rfl (k12.2 (fun e=>by cases e))
        have:=Lib.run_unsafeSliceData_nil (P:=P) (w:=w) argTypes oper.type 0 0;rw [← hxx,← em]at this;exact left_val ⟨_,C,w,this,.refl C,hi,.nilp,.refl _ _⟩
       ·cases hq
      ·cases hq
     ·rename_i hne
      injection hq with hq; subst hq
      simp only [Option.some.injEq,Prod.mk.injEq]at hev; obtain ⟨rfl,rfl⟩:=hev;generalize hy:ρ x=y at ha;cases ha with
      | ownnil _ _ _=>exact absurd rfl hne
      | own _ _ _ r hr hcap=>
       have:=Lib.run_unsafeSliceData_row (P:=P) (w:=w) argTypes oper.type ⟨r.block,0,none⟩ n r.cap (by omega);rw [← hy,← em]at this;refine left_val ⟨_,C,w,this,.refl C,hi,?_,.refl _ _⟩
       have:=Rel.eptr (C:=C) l ver 0 0 r hr;simpa using this
    ·cases hev
  ·cases hc
 ·
  rename_i args argTypes;split at hc
  ·rename_i p n pt it hargs htys
   have eargs:args=#[p,n]:=by rw [← Array.toList_inj]; simpa using hargs
   have etys:argTypes=#[pt,it]:=by rw [← Array.toList_inj]; simpa using htys
   subst eargs etys;split at hc
   ·rename_i e hp
    split at hc
    ·rename_i hcell
     simp only [Option.some.injEq,Prod.mk.injEq]at hc; obtain ⟨rfl,rfl⟩:=hc;obtain ⟨a,b,rfl,h1,h2⟩:=two_vals hrel;have em:#[p,n].map ρ=#[ρ p,ρ n]:=by simp
     simp only [evalAO,AO.quiet,Bool.false_eq_true,if_false]at hev;cases a <;> first | (simp [evalEff]at hev; done) | skip
     case nilp=>
      cases b <;> first | (simp [evalEff]at hev; done) | skip
      rename_i k q;cases k <;> first | (simp [evalEff]at hev; done) | skip
      simp only [evalEff]at hev;split at hev
      ·rename_i hq; subst hq
       simp only [Option.some.injEq,Prod.mk.injEq]at hev; obtain ⟨rfl,rfl⟩:=hev;have:=Lib.run_unsafeString_none (P:=P) w pt it oper.type none;rw [← int_inv h2]at this;have hpp:ρ p=.pointer none:=by generalize hy:ρ p=y at h1; cases h1; rfl
       rw [← hpp,← em]at this;exact left_val ⟨_,C,w,this,.refl C,hi,.str [],.refl _ _⟩
      ·cases hev
     case eptr l ver i off=>
      cases i <;> first | (simp [evalEff]at hev; done) | skip
      cases off <;> first | (simp [evalEff]at hev; done) | skip
      cases b <;> first | (simp [evalEff]at hev; done) | skip
      rename_i k q;cases k <;> first | (simp [evalEff]at hev; done) | skip
      simp only [evalEff]at hev;split at hev
      ·rename_i tg ver' rows hl
       split at hev
       ·rename_i hcc
        obtain ⟨rfl,rfl,c1,rfl,c2⟩:=hcc;simp only [Option.map_eq_some_iff,Prod.mk.injEq]at hev;obtain ⟨bs,hbs,rfl,rfl⟩:=hev;have:=ustr_sound (ty:=oper.type) (it:=it) hi hp hcell hl h1 c1 c2 hbs;rw [← int_inv h2,← em]at this;exact left_val this
       ·cases hev
      ·cases hev
    ·cases hc
   ·cases hc
  ·cases hc
 ·cases hc
end
end Go.Proofs.YtpefhfiehfkocaaGreatDoor
namespace Go.Proofs.YtpefhfiehfkocaaGreatDoor
open Go.RowKit
section
variable {P:Program} {B:Base} {C D:Cx} {h:Heap} {w w':World} {G:Gam}
theorem Inv.same(hi:Inv B C h w){l:Nat}{blk blk':Blk}(hl:h[l]?=some blk)(hok:BlkOK B C w l blk')(hb:∀ b,blockOf C l blk'=some b→blockOf C l blk=some b)
  (hfv:∀ ne tg sz ver rows wr,blk'=.arrX ne tg sz ver rows wr→∀ v,ver<v→C.ar l v=none):Inv B C (h.set l blk') w:=by
 refine hi.turn hl (.refl C) (Nat.le_refl _) (fun _ _ _=>⟨rfl,fun _=>rfl⟩) hi.im hi.one hok (fun b k=>.inl (hb b k)) hi.fr (fun k ne tg sz ver rows wr hk v hv=>?_)
 rw [List.getElem?_set]at hk
 by_cases e:l=k
 ·subst e
  rw [if_pos rfl,if_pos (List.getElem?_eq_some_iff.1 hl).1]at hk;injection hk with hk
  exact hfv _ _ _ _ _ _ hk v hv
 ·rw [if_neg e]at hk; exact hi.fv k _ _ _ _ _ _ hk v hv
theorem viewL_app:∀ {as bs vs us:List AV},viewL h as=some vs→viewL h bs=some us→viewL h (as++bs)=some (vs++us)
 | [],bs,vs,us,h1,h2=>by simp only [viewL]at h1; injection h1 with h1; subst h1; exact h2
 | a::as,bs,vs,us,h1,h2=>by
  simp only [viewL]at h1;split at h1
  ·rename_i v vs' k1 k2
   injection h1 with h1; subst h1
   simp only [List.cons_append,viewL,k1,viewL_app k2 h2]
  ·cases h1
theorem viewL_len:∀ {as vs:List AV},viewL h as=some vs→vs.length=as.length
 | [],vs,h1=>by simp only [viewL]at h1; injection h1 with h1; subst h1; rfl
 | a::as,vs,h1=>by
  simp only [viewL]at h1;split at h1
  ·rename_i v vs' k1 k2
   injection h1 with h1; subst h1
   simp [viewL_len k2]
  ·cases h1
theorem viewRows_flat:∀ {rows rows':List (List AV)},viewRows h rows=some rows'→viewL h rows.flatten=some rows'.flatten∧rows'.length=rows.length∧∀ n:Nat,(∀ r∈rows,r.length=n)→∀ r∈rows',r.length=n
 | [],rows',h1=>by simp only [viewRows]at h1; injection h1 with h1; subst h1; exact ⟨rfl,rfl,fun _ _ r hr=>by cases hr⟩
 | r::rs,rows',h1=>by
  simp only [viewRows]at h1;split at h1
  ·rename_i v vs k1 k2
   injection h1 with h1; subst h1
   obtain ⟨q1,q2,q3⟩:=viewRows_flat k2;refine ⟨by simpa using viewL_app k1 q1,by simp [q2],fun n hn x hx=>?_⟩
   rcases List.mem_cons.1 hx with rfl | hx
   ·rw [viewL_len k1]; exact hn r (by simp)
   ·exact q3 n (fun y hy=>hn y (by simp [hy])) x hx
  ·cases h1
theorem freezeAll_nested:∀ (ls:List Nat) (h:Heap) {l sz ver:Nat} {tg:Option TypeId} {rows:List (List AV)} {wr:Bool},h[l]?=some (.arrX true tg sz ver rows wr)→(freezeAll h ls)[l]?=some (.arrX true tg sz ver rows wr)
 | [],_,_,_,_,_,_,_,hl=>hl
 | k::ks,h,l,sz,ver,tg,rows,wr,hl=>by
  refine freezeAll_nested ks _ ?_
  unfold freeze1;split
  ·rename_i tg' sz' ver' rows' wr' hk
   rw [List.getElem?_set];by_cases e:k=l
   ·subst e; rw [hl]at hk; injection hk with hk; cases hk
   ·rw [if_neg e]; exact hl
  ·exact hl
theorem settle1_sound(hi:Inv B C h w){v:AV}{h1:Heap}(hs:settle1 h v=some h1):∃ D,C.Le D∧Inv B D h1 w:=by
 unfold settle1 at hs
 split at hs
 ·rename_i l ver0 n0
  split at hs
  ·rename_i tg sz ver rows wr hl
   simp only [Option.map_eq_some_iff]at hs;obtain ⟨rows',hv,rfl⟩:=hs;obtain ⟨D,d1,d2,d3,d4,d5⟩:=freezeAll_inv (ownsL rows.flatten) hi;have hl2:=freezeAll_nested (ownsL rows.flatten) h hl;obtain ⟨v1,v2,v3⟩:=viewRows_flat hv;refine ⟨D,d1,d2.same hl2 ?_ (fun b hb=>hb) (fun ne tg' sz' ver' rows2 wr' e v hv=>?_)⟩
   ·rcases d2.ok l _ hl2 with ⟨k1,k2⟩ | ⟨r,cur,k1,k2,k3,k4,k5,k6,k7,k8,k8',k9,k10,k11,k12⟩
    ·subst k2
     simp only [viewRows,Option.some.injEq]at hv;exact .inl ⟨k1,hv.symm⟩
    ·have k8c:RelL C rows.flatten (cur.toList.take (rows.length*r.size)):=by
      rcases hi.ok l _ hl with ⟨q1,q2⟩ | ⟨r',cur',q1,q2,q3,q4,q5,q6,q7,q8,_⟩
      ·rw [d4]at k1; rw [k1]at q1; cases q1
      ·rw [d4]at k1; rw [k1]at q1; injection q1 with q1; injection q1 with q1; subst q1
       rw [k6]at q6; injection q6 with q6; injection q6 with q6; subst q6
       exact q8
     have hrel:=viewL_rel hi (I:=D.im) d1.im rows.flatten rows'.flatten _ d5 v1 k8c;refine .inr ⟨r,cur,k1,k2,by rw [v2]; exact k3,k4,v3 _ k5,k6,k7,?_,?_,k9,?_,k11,k12.len (by rw [v2]; exact Nat.le_refl _)⟩
     ·rw [v2]; exact hrel
     ·rw [v2]; exact k8'
     ·rw [v2]; exact k10
   ·injection e with e000 e00 e0 e1; subst e1
    exact d2.fv l _ _ _ _ _ _ hl2 v hv
  ·injection hs with hs; subst hs; exact ⟨C,.refl C,hi⟩
 ·injection hs with hs; subst hs; exact ⟨C,.refl C,hi⟩
theorem settleL_sound:∀ {vs:List AV} {C:Cx} {h h1:Heap},Inv B C h w→settleL h vs=some h1→∃ D,C.Le D∧Inv B D h1 w
 | [],C,h,h1,hi,hs=>by simp only [settleL]at hs; injection hs with hs; subst hs; exact ⟨C,.refl C,hi⟩
 | a::as,C,h,h1,hi,hs=>by
  simp only [settleL]at hs;split at hs
  ·rename_i h2 h3
   obtain ⟨D,d1,d2⟩:=settle1_sound hi h3;obtain ⟨E,e1,e2⟩:=settleL_sound d2 hs;exact ⟨E,d1.trans e1,e2⟩
  ·cases hs
theorem slot_sound(hi:Inv B C h w){p sz ver:Nat}{ne:Bool}{tg:Option TypeId}{rows:List (List AV)}{wr:Bool}(hl:h[p]?=some (.arrX ne tg sz ver rows wr)) :
  Inv B (C.addAr p (ver+1) none) (h.set p (.arr sz (ver+1) [] true)) w∧Rel (C.addAr p (ver+1) none) (.own p (ver+1) 0) (.slice none 0 0)∧C.Le (C.addAr p (ver+1) none):=by
 have hn:C.ar p (ver+1)=none:=hi.fv p _ _ _ _ _ _ hl (ver+1) (by omega)
 have he:=ext_addAr (w:=w) none hn
 have har:(C.addAr p (ver+1) none).ar p (ver+1)=some none:=by simp [Cx.addAr]
 have hpl:p<h.length:=(List.getElem?_eq_some_iff.1 hl).1
 refine ⟨?_,.ownnil _ _ har,he.le⟩
 refine hi.turn hl he.le (Nat.le_refl _) (fun _ _ _=>⟨rfl,fun _=>rfl⟩) hi.im hi.one (.inl ⟨har,rfl⟩) (fun b hb=>by simp [blockOf,har]at hb) (fun k hk=>?_) (fun k ne2 tg2 sz2 ver2 rows2 wr2 hk v hv=>?_)
 ·have:=hi.fr k hk
  refine ⟨this.1,fun v=>?_⟩
  simp only [Cx.addAr]; rw [if_neg (by omega)]; exact this.2 v
 ·simp only [Cx.addAr]
  rw [List.getElem?_set]at hk;by_cases ek:p=k
  ·subst ek
   rw [if_pos rfl,if_pos hpl]at hk;injection hk with hk; injection hk with hk000 hk00 hk0 hk; subst hk
   rw [if_neg (by omega)];exact hi.fv p _ _ _ _ _ _ hl v (by omega)
  ·rw [if_neg ek]at hk
   rw [if_neg (fun x=>ek x.1.symm)];exact hi.fv k _ _ _ _ _ _ hk v hv
theorem pre_sound(hi:Inv B C h w){k:PK}{vs vs1:List AV}{xs:List Value}{h1:Heap}(hr:RelL C vs xs)(hp:preAV k h vs=some (h1,vs1)):∃ D,C.Le D∧Inv B D h1 w∧RelL D vs1 xs:=by
 cases k with
 | settle=>
  simp only [preAV,Option.map_eq_some_iff,Prod.mk.injEq]at hp;obtain ⟨h2,h3,rfl,rfl⟩:=hp;obtain ⟨D,d1,d2⟩:=settleL_sound hi h3;exact ⟨D,d1,d2,hr.mono d1⟩
 | nest=>
  have stay:some (h,vs)=some (h1,vs1)→∃ D,C.Le D∧Inv B D h1 w∧RelL D vs1 xs:=fun e=>by
   injection e with e; injection e with e1 e2; subst e1 e2; exact ⟨C,.refl C,hi,hr⟩
  simp only [preAV]at hp;split at hp
  ·rename_i l ver i off v
   split at hp
   ·rename_i tg sz ver' rows hl
    split at hp
    ·exact stay hp
    ·injection hp with hp; injection hp with e1 e2; subst e1 e2
     refine ⟨C,.refl C,hi.same hl ?_ (fun b hb=>hb) (fun ne tg' sz' ver2 rows2 wr' e v hv=>?_),hr⟩
     ·rcases hi.ok l _ hl with ⟨k1,k2⟩ | ⟨r,cur,k1,k2,k3,k4,k5,k6,k7,k8,k9⟩
      ·exact .inl ⟨k1,k2⟩
      ·exact .inr ⟨r,cur,k1,k2,k3,k4,k5,k6,k7,k8.mono C.frozen_le,k9⟩
     ·injection e with e000 e00 e0 e1; subst e1
      exact hi.fv l _ _ _ _ _ _ hl v hv
   ·exact stay hp
  ·exact stay hp
 | frzv=>
  simp only [preAV]at hp;split at hp
  ·rename_i a v
   simp only [Option.map_eq_some_iff,Prod.mk.injEq]at hp;obtain ⟨⟨u,h2⟩,h3,rfl,rfl⟩:=hp;obtain ⟨x,us,rfl,r1,r2⟩:=hr.inv_cons;obtain ⟨y,us,rfl,r3,r4⟩:=r2.inv_cons;have:=r4.inv_nil; subst this;obtain ⟨D,d1,d2,d3,d4,d5⟩:=frz_sound hi h3 r3;exact ⟨D,d1,d2,.cons (r1.mono d1) (.cons (d3.mono (Cx.frozen_le D)) .nil)⟩
  ·cases hp
 | spare m=>
  simp only [preAV,Option.some.injEq,Prod.mk.injEq]at hp;obtain ⟨rfl,rfl⟩:=hp;obtain ⟨a1,a2,a3⟩:=add_nil hi m;exact ⟨_,a3,a1,hr.mono a3⟩
 | slot p=>
  simp only [preAV]at hp;split at hp
  ·rename_i r
   split at hp
   ·rename_i ne tg sz ver rows wr hl
    injection hp with hp; injection hp with e1 e2; subst e1 e2
    obtain ⟨a1,a2,a3⟩:=slot_sound hi hl;obtain ⟨v,us,rfl,r1,r2⟩:=hr.inv_cons;cases r1
    exact ⟨_,a3,a1,.cons a2 (r2.mono a3)⟩
   ·cases hp
  ·injection hp with hp; injection hp with e1 e2; subst e1 e2; exact ⟨C,.refl C,hi,hr⟩
theorem pres_sound:∀ {ks:List PK} {C:Cx} {h h1:Heap} {vs vs1:List AV} {xs:List Value},Inv B C h w→RelL C vs xs→preAVs ks h vs=some (h1,vs1)→∃ D,C.Le D∧Inv B D h1 w∧RelL D vs1 xs
 | [],C,h,h1,vs,vs1,xs,hi,hr,hp=>by simp only [preAVs]at hp; injection hp with hp; injection hp with e1 e2; subst e1 e2; exact ⟨C,.refl C,hi,hr⟩
 | k::ks,C,h,h1,vs,vs1,xs,hi,hr,hp=>by
  simp only [preAVs]at hp;split at hp
  ·rename_i h2 vs2 h3
   obtain ⟨D,d1,d2,d3⟩:=pre_sound hi hr h3;obtain ⟨E,e1,e2,e3⟩:=pres_sound d2 d3 hp;exact ⟨E,d1.trans e1,e2,e3⟩
  ·cases hp
def compK(P:Program)(own:Bool):Op→Option (AO×List Operand)
 | .buildSlice t len parts=>match P.underlying t with
  | some (.slice e)=>(match tsize P e,tzero P e with
   | some n,some _=>if parts.toList.map (·.1)=List.range len then some (.bslK own n,parts.toList.map (·.2))else none
   | _,_=>none)
  | _=>none
 | _=>none
theorem K_sound(hi:Inv B C h w){o:Op}{ao:AO}{xs:List Operand}{own:Bool}(hc:compK P own o=some (ao,xs)){vals:List AV}{v:AV}{h':Heap}{ρ:Operand→Value}
  {oper:Oper} (hop:oper.op=o) (hrel:RelL C vals (xs.map ρ)) (hev:evalAO G h ao vals=some (v,h')):Left P B C w ((execOp ρ oper).run P w) v h':=by
 have ex:execOp ρ oper=execOp ρ { oper with op:=o }:=by rw [← hop]
 rw [ex]
 clear ex hop
 unfold compK at hc
 split at hc
 ·rename_i t len parts
  split at hc
  ·rename_i e ht
   split at hc
   ·rename_i n z hn hz
    split at hc
    ·rename_i hp
     simp only [Option.some.injEq,Prod.mk.injEq]at hc; obtain ⟨rfl,rfl⟩:=hc;simp only [evalAO,AO.quiet,Bool.false_eq_true,if_false]at hev;exact left_val (bslK_sound hi ht hn hz hp hrel hev)
    ·cases hc
   ·cases hc
  ·cases hc
 ·cases hc
end
end Go.Proofs.YtpefhfiehfkocaaGreatDoor
namespace Go.Proofs.YtpefhfiehfkocaaGreatDoor
open Go.RowKit
section
variable {P:Program} {B:Base} {C D:Cx} {h h':Heap} {w w':World} {G:Gam}
theorem inv_forget(hi:Inv B C h w)(hl:h'.length=h.length)(hs:∀ (l:Nat) blk,h'[l]?=some blk→blk=.dead∨h[l]?=some blk):Inv B C h' w:=by
 refine ⟨hi.im,hi.one,fun k x hx=>?_,fun k k' x x' b h1 h2 h3 h4=>?_,fun k hk=>hi.fr k (by omega),fun k ne tg sz ver rows wr hx=>?_,hi.hB,hi.low,hi.gl,hi.tb,fun k x hx=>by have:=hi.rcl k x hx; omega,hi.cle⟩
 ·rcases hs k x hx with rfl | hx
  ·trivial
  ·exact hi.ok k x hx
 ·rcases hs k x h1 with rfl | h1
  ·simp [blockOf]at h3
  ·rcases hs k' x' h2 with rfl | h2
   ·simp [blockOf]at h4
   ·exact hi.inj k k' x x' b h1 h2 h3 h4
 ·rcases hs k _ hx with hx | hx
  ·cases hx
  ·exact hi.fv k ne tg sz ver rows wr hx
theorem inv_die(hi:Inv B C h w)(l:Nat):Inv B C (h.set l .dead) w:=by
 refine inv_forget hi (by simp) fun k x hx=>?_
 rw [List.getElem?_set]at hx
 split at hx
 ·split at hx
  ·injection hx with hx; exact .inl hx.symm
  ·cases hx
 ·exact .inr hx
theorem find_born{ms:Array MapEntry}(hb:∀ (i:Nat) m,ms[i]?=some m→m.born=i){i:Nat}{m:MapEntry}(hm:ms[i]?=some m):ms.find? (fun e=>e.born == i)=some m:=by
 obtain ⟨hi,he⟩:=Array.getElem?_eq_some_iff.1 hm
 rw [Array.find?_eq_some_iff_getElem]
 refine ⟨by simp [hb i m hm],i,hi,he,fun j hj=>?_⟩
 have hjm:ms[j]?=some (ms[j]'(by omega)):=by simp
 have:=hb j _ hjm
 simp; omega
theorem ent_run(hi:Inv B C h w){l:Nat}{x:Value}{v:AV}(hx:Rel C (.ptr l 0) x)(he:entAV h l=some v):∃ u,(Instr.entry x).run P w=.ok u w∧Rel C v u:=by
 unfold entAV at he
 split at he
 ·rename_i m n seen last hl
  split at he
  ·rename_i i es hs hm
   split at he
   ·rename_i hlen
    split at he
    ·rename_i k u hk
     injection he with he; subst he
     cases hx with
     | ptr _ _ b hb=>
      obtain ⟨b',mo,h1,h2,h3,h4⟩:=hi.ok l _ hl;rw [hb]at h1; injection h1 with h1; subst h1
      obtain ⟨bm,h5,rfl⟩:=h4;obtain ⟨b',ms,ck,k1,k2,k3,k4,k5,k6,k7⟩:=hi.ok m _ hm;rw [h5]at k1; injection k1 with k1; subst k1
      have hi':i<ms.size:=by rw [← k4]; exact (List.getElem?_eq_some_iff.1 hk).1
      have hmi:ms[i]?=some ms[i]:=by simp [hi']
      have hf:=find_born k7 hmi;have hck:ck=last:=by omega
      obtain ⟨r1,r2⟩:=k5 i k u _ hk hmi;have hbk:seen.toArray.back?=some i:=by rw [← hs]; simp [List.back?_toArray]
      refine ⟨.tuple #[ms[i].key,ms[i].val],?_,.tup _ _ rfl fun j c q hc hq=>?_⟩
      ·simp [Instr.entry,getObj,Sem.run,h3,hbk,k3,hck,hf]
      ·match j with
       | 0=>simp at hc hq; subst hc hq; exact r1.mono C.frozen_le
       | 1=>simp at hc hq; subst hc hq; exact r2.mono C.frozen_le
       | _+2=>simp at hc
    ·cases he
   ·cases he
  ·cases he
 ·cases he
theorem run_choose(q:Question)(w:World):(choose q).run P w=.ok (if q.forced then 0 else q.cut (w.tape w.drawn q)) (if q.forced then w else { w with drawn:=w.drawn+1 }):=by
 unfold choose
 simp only [Sem.run]
 split <;> rfl
theorem mnx_sound(hi:Inv B C h w){l:Nat}{x:Value}{ty:TypeId}{alts:List (AV×Heap)}(hx:Rel C (.ptr l 0) x)(he:mnxAV h l=some alts) :
  ∃ r u w',r∈alts∧(Instr.next x false ty).run P w=.ok u w'∧Inv B C r.2 w'∧Rel C r.1 u∧Keep B w w':=by
 have over:Rel C (.tup [.bool false]) (.tuple #[.bool false]):=.tup _ _ rfl fun j c q hc hq=>by
  match j with
  | 0=>simp at hc hq; subst hc hq; exact .bool _
  | _+1=>simp at hc
 unfold mnxAV at he
 cases hx with
 | ptr _ _ b hb=>
 split at he
 ·rename_i n seen last hl
  injection he with he; subst he
  obtain ⟨b',mo,h1,h2,h3,h4⟩:=hi.ok l _ hl;rw [hb]at h1; injection h1 with h1; subst h1
  cases h4
  exact ⟨_,_,w,List.mem_singleton.2 rfl,by simp [Instr.next,getObj,Sem.run,h3],inv_die hi l,over,Keep.refl _ _⟩
 ·rename_i m n seen last hl
  split at he
  ·rename_i es hm
   split at he
   ·rename_i hc
    obtain ⟨hlen,rfl⟩:=hc;obtain ⟨b',mo,h1,h2,h3,h4⟩:=hi.ok l _ hl;rw [hb]at h1; injection h1 with h1; subst h1
    obtain ⟨bm,h5,rfl⟩:=h4;obtain ⟨b',ms,ck,k1,k2,k3,k4,k5,k6,k7⟩:=hi.ok m _ hm;rw [h5]at k1; injection k1 with k1; subst k1
    have hn:ms.size=last:=by omega
    have hck:ck=last:=by omega
    subst hck;have hbn:∀ e∈ms,e.born<ck:=fun e hme=>by
     obtain ⟨i,hi1,hi2⟩:=Array.mem_iff_getElem.1 hme;have:=k7 i e (by simp [hi1,hi2]);omega
    have hgone:(!seen.toArray.isEmpty&&!ms.isEmpty&&ms.all fun e=>decide (e.born ≥ ck))=false:=by
     by_cases h0:ms.size=0
     ·simp [Array.isEmpty,h0]
     ·have hall:(ms.all fun e=>decide (e.born ≥ ck))=false:=by
       rw [Bool.eq_false_iff];intro hall;rw [Array.all_eq_true]at hall;have h1:=hall 0 (by omega);have h2:=hbn _ (Array.getElem_mem (xs:=ms) (i:=0) (by omega));simp at h1; omega
      simp [hall]
    have hold:∀ ls:Array MapEntry,(∀ e∈ls,e∈ms)→ls.filter (fun e=>decide (e.born<ck))=ls∧ls.filter (fun e=>decide (e.born ≥ ck))=#[]:=fun ls hls=>by
     constructor
     ·rw [Array.filter_eq_self]; intro e hme; simp [hbn e (hls e hme)]
     ·rw [Array.filter_eq_empty_iff]; intro e hme; have:=hbn e (hls e hme); simp; omega
    generalize hleft:ms.filter (fun e=>!seen.toArray.contains e.born)=ls;have hlm:∀ e∈ls,e∈ms:=fun e hme=>by rw [← hleft]at hme; exact (Array.mem_filter.1 hme).1
    obtain ⟨ho1,ho2⟩:=hold ls hlm;have hrun:∀ (S:Nat→Sem Value),(Instr.next (.pointer (some ⟨b,0,none⟩)) false ty).run P w=
      (do match ((if ls.isEmpty then #[none]else #[])++ls.map some)[← choose (.mapNext ((if ls.isEmpty then (#[none]:Array (Option MapEntry))else #[])++ls.map some).size)]? with
       | some (some e)=>setObj b (.mapIter (some bm) ck (seen.toArray.push e.born) ck); pure (.tuple #[.bool true,e.key,e.val])
       | some none=>pure (.tuple #[.bool false])
       | none=>stuck "Next: no such candidate" : Sem Value).run P w:=fun _=>by
     simp only [Instr.next,Sem.run_bind,getObj,Sem.run,h3,Result.andThen_ok,k3,hgone,Bool.false_eq_true,if_false];rw [hleft,ho1,ho2];simp;rfl
    replace hrun:=hrun (fun _=>stuck "")
    split at he
    ·rename_i hf
     injection he with he; subst he
     have hls:ls=#[]:=by
      rw [← hleft,Array.filter_eq_empty_iff];intro e hme;obtain ⟨i,hi1,hi2⟩:=Array.mem_iff_getElem.1 hme;have hb':=k7 i e (by simp [hi1,hi2]);have hnot:i ∉ (List.range ck).filter fun i=>!seen.contains i:=by rw [hf]; simp
      simp only [List.mem_filter,List.mem_range,not_and,Bool.not_eq_true',Bool.not_eq_false]at hnot;have:=hnot (by omega);simp [hb']at this ⊢;exact this
     subst hls;refine ⟨_,_,w,List.mem_singleton.2 rfl,?_,inv_die hi l,over,Keep.refl _ _⟩
     rw [hrun];simp [Sem.run_bind,Question.forced]
    ·rename_i i0 is hf
     injection he with he; subst he
     have hne:ls.isEmpty=false:=by
      have hin:i0∈(List.range ck).filter fun i=>!seen.contains i:=by rw [hf]; simp
      simp only [List.mem_filter,List.mem_range]at hin;have hi0:i0<ms.size:=by omega
      have:ms[i0]∈ls:=by
       rw [← hleft,Array.mem_filter];refine ⟨Array.getElem_mem hi0,?_⟩
       rw [k7 i0 _ (by simp [hi0]:ms[i0]?=some ms[i0])];simpa using hin.2
      cases hem:ls.isEmpty with
      | false=>rfl
      | true=>rw [Array.isEmpty_iff.1 hem]at this; simp at this
     have hpos:0<ls.size:=by
      rcases Nat.eq_zero_or_pos ls.size with e | e
      ·rw [Array.eq_empty_of_size_eq_zero e]at hne; simp at hne
      ·exact e
     generalize hcc:(if (Question.mapNext ls.size).forced then 0 else (Question.mapNext ls.size).cut (w.tape w.drawn (.mapNext ls.size)))=c;generalize hww:(if (Question.mapNext ls.size).forced then w else { w with drawn:=w.drawn+1 })=w1;have hc:c<ls.size:=by
      rw [← hcc]; split
      ·exact hpos
      ·exact Nat.mod_lt _ hpos
     have hb1:Below w.heap.size w w1:=by
      rw [← hww]; split
      ·exact Below.refl _ _
      ·exact ⟨rfl,rfl,rfl,Nat.le_refl _,fun k hk=>rfl⟩
     have hheap:w1.heap=w.heap:=by rw [← hww]; split <;> rfl
     have he1:ls[c]'hc∈ms:=hlm _ (Array.getElem_mem hc);obtain ⟨i,hi1,hi2⟩:=Array.mem_iff_getElem.1 he1;have hms:ms[i]?=some (ls[c]'hc):=by simp [hi1,hi2]
     have hbi:=k7 i _ hms;have hin:i∈(List.range ck).filter fun i=>!seen.contains i:=by
      simp only [List.mem_filter,List.mem_range];refine ⟨by omega,?_⟩
      have:ls[c]'hc∈ms.filter (fun e=>!seen.toArray.contains e.born):=by rw [hleft]; exact Array.getElem_mem hc
      have:=(Array.mem_filter.1 this).2;rw [hbi]at this;simpa using this
     rw [hf]at hin;have hes:i<es.length:=by omega
     have hesi:es[i]?=some es[i]:=by simp [hes]
     obtain ⟨r1,r2⟩:=k5 i _ _ _ hesi hms;have h3':w1.heap[b]?=some (.mapIter (some bm) ck seen.toArray ck):=by rw [hheap]; exact h3
     refine ⟨_,.tuple #[.bool true,(ls[c]'hc).key,(ls[c]'hc).val],World.put w1 b (.mapIter (some bm) ck (seen.toArray.push i) ck),List.mem_map.2 ⟨i,hin,rfl⟩,?_,?_,?_,?_⟩
     ·rw [hrun]
      simp only [hne,Bool.false_eq_true,if_false,Array.empty_append,Array.size_map,Sem.run_bind,run_choose,Result.andThen_ok];rw [hcc,hww];simp [hc,setObj,Sem.run,h3',World.put,hbi]
     ·exact turn_obj (hi.grow hb1) hl hb (by simp [blockOf,hb]) h3' (fun c e f=>by simp) h2 ⟨b,some bm,hb,h2,by rw [put_same h3']; simp,bm,h5,rfl⟩ (fun b' hb'=>by simp [blockOf,hb]at hb'; exact hb'.symm) (fun _ _ _ _=>by simp)
     ·rw [hesi]
      refine .tup _ _ rfl fun j c q hc hq=>?_
      match j with
      | 0=>simp at hc hq; subst hc hq; exact .bool _
      | 1=>simp at hc hq; subst hc hq; exact r1.mono C.frozen_le
      | 2=>simp at hc hq; subst hc hq; exact r2.mono C.frozen_le
      | _+3=>simp at hc
     ·exact (below_of hi hb1).trans (put_below h2 h3' (fun c=>by simp))
   ·cases he
  ·cases he
 ·cases he
end
end Go.Proofs.YtpefhfiehfkocaaGreatDoor
namespace Go.Proofs.YtpefhfiehfkocaaGreatDoor
open Go.RowKit
section
variable {P:Program} {B:Base} {C D:Cx} {h h':Heap} {w w':World} {G:Gam}
def CkAt(P:Program)(em:Bool)(d:Nat):Prop:=∀ (t:TypeId) (ks:List EK) (off:Nat) (xs:Array Value),flatEq P d t=some ks→tsize P t=some ks.length→off+ks.length≤xs.size→
 ∀ k w,(do let a ← part t xs off; Instr.checkKey em (k+d) t a:Sem Unit).run P w=.ok () w
theorem flatFields_each{rec:TypeId→Option (List EK)}:∀ (fs:List Field) (off:Nat) (ks:List EK),flatFields P rec fs off=some ks→
  ∀ f∈fs,f.name ≠ "_" ∧ ∃ k1,rec f.type=some k1∧tsize P f.type=some k1.length∧f.offset+k1.length≤off+ks.length
 | [],_,_,_,f,hf=>by simp at hf
 | g::fs,off,ks,h,f,hf=>by
  simp only [flatFields]at h;split at h
  ·cases h
  ·rename_i hn
   simp only [not_or,Decidable.not_not]at hn;split at h
   ·rename_i k1 hk1
    split at h
    ·rename_i hs
     simp only [Option.map_eq_some_iff]at h;obtain ⟨k2,hk2,rfl⟩:=h;rcases List.mem_cons.1 hf with rfl | hf
     ·exact ⟨hn.1,k1,hk1,hs,by simp; omega⟩
     ·obtain ⟨q1,k3,q2,q3,q4⟩:=flatFields_each fs _ k2 hk2 f hf
      exact ⟨q1,k3,q2,q3,by simp; omega⟩
    ·cases h
   ·cases h
theorem bind_part{α β:Type}{a:Sem α}{f:α→Sem β}{w:World}{r:β}(h:(do let x ← a; f x:Sem β).run P w=.ok r w):∀ {γ:Type} (g:β→Sem γ),(do let x ← a; let y ← f x; g y:Sem γ).run P w=(g r).run P w:=by
 intro γ g
 simp only [Sem.run_bind]at h ⊢
 generalize a.run P w=r1 at h ⊢
 cases r1 with
 | halt _ _=>simp [Result.andThen]at h
 | ok x w1=>
  simp only [Result.andThen_ok]at h ⊢;rw [h]; rfl
theorem ckFields{em:Bool}{d:Nat}(h:CkAt P em d){t:TypeId}{fs:Array Field}(hu:P.underlying t=some (.struct fs)){ks:List EK}(hk:flatFields P (flatEq P d) fs.toList 0=some ks){xs:Array Value}(hx:xs.size=ks.length)(k:Nat)(w:World) :
  (Instr.checkKey em (k+d+1) t (.agg xs)).run P w=.ok () w:=by
 rw [Instr.checkKey]
 simp only [Sem.run_bind,run_underlying hu,Result.andThen_ok]
 rw [← Array.forIn_toList]
 have each:=flatFields_each fs.toList 0 ks hk
 generalize fs.toList=L at each
 induction L with
 | nil=>simp
 | cons f L ih=>
  obtain ⟨hn,k1,q1,q2,q3⟩:=each f (by simp);have p:=h f.type k1 f.offset xs q1 q2 (by omega) k w;have p2:=fun (γ:Type) (g:Unit→Sem γ)=>bind_part p g
  simp only [Sem.run_bind]at p;simp only [List.forIn_cons,Sem.run_bind,hn,ne_eq,not_false_eq_true,if_true];generalize (part f.type xs f.offset).run P w=r1 at p ⊢;cases r1 with
  | halt _ _=>simp [Result.andThen]at p
  | ok x w1=>
   simp only [Result.andThen_ok]at p ⊢;rw [p];simp only [Result.andThen_ok,Sem.run_pure];exact ih fun g hg=>each g (by simp [hg])
theorem ckAt(em:Bool):∀ d,CkAt P em d
 | 0=>fun t ks off xs h=>by simp [flatEq]at h
 | d+1=>by
  intro t ks off xs h hs hx k w;have atom:∀ (hn:ks.length=1) (hagg:tagg P t=some false) (hd:∀ x,(Instr.checkKey em (k+d+1) t x).run P w=.ok () w),
    (do let a ← part t xs off; Instr.checkKey em (k+(d+1)) t a:Sem Unit).run P w=.ok () w:=by
   intro hn hagg hd;have hlt:off<xs.size:=by omega
   simp [part,run_isAgg hagg,hlt];exact hd _
  simp only [flatEq]at h;cases hu:P.underlying t with
  | none=>simp [hu]at h
  | some dsc=>
   cases dsc <;> simp only [hu]at h <;> (first | cases h | skip)
   case some.bool.refl=>exact atom rfl (by simp [tagg,hu]) fun x=>by simp only [Instr.checkKey,Sem.run_bind,run_underlying hu,Result.andThen_ok]; rfl
   case some.int.refl q=>exact atom rfl (by simp [tagg,hu]) fun x=>by simp only [Instr.checkKey,Sem.run_bind,run_underlying hu,Result.andThen_ok]; rfl
   case some.string.refl=>exact atom rfl (by simp [tagg,hu]) fun x=>by simp only [Instr.checkKey,Sem.run_bind,run_underlying hu,Result.andThen_ok]; rfl
   case some.struct fs=>
    split at h
    ·cases h
    ·have hagg:tagg P t=some true:=by simp [tagg,hu]
     simp only [part,Sem.run_bind,run_isAgg hagg,Result.andThen_ok,if_true,run_sizeOf' hs,Sem.run_pure];rw [show k+(d+1)=k+d+1 by omega];exact ckFields (ckAt em d) hu h (by simp; omega) k w
theorem ckTop{t:TypeId}{fs:Array Field}{ks:List EK}(hu:P.underlying t=some (.struct fs))(hk:flatEq P 100 t=some ks){xs:Array Value}(hx:xs.size=ks.length)(em:Bool)(w:World):(Instr.checkKey em 10000 t (.agg xs)).run P w=.ok () w:=by
 have hk':(if P.stoodInHeld t then none else flatFields P (flatEq P 99) fs.toList 0)=some ks:=by
  have:flatEq P (99+1) t=some ks:=hk;rw [flatEq_struct hu]at this; exact this
 split at hk'
 ·cases hk'
 ·exact ckFields (ckAt em 99) hu hk' hx 9900 w
theorem aget_ask{kt:TypeId}{fs:Array Field}(hu:P.underlying kt=some (.struct fs)){ks:List EK}(hk:flatEq P 100 kt=some ks){xs:Array Value}{as:List AV}(hx:RelL C as xs.toList)(hl:as.length=ks.length) :
  ∀ (es:List (AV×AV)) (ms:List MapEntry) (n:Nat) (r:Option AV),es.length=ms.length→(∀ (i:Nat) k v m,es[i]?=some (k,v)→ms[i]?=some m→Rel C k m.key∧Rel C v m.val)→agget ks as es=some r→
   match r with
   | some v=>∃ i u,(∀ w,(Instr.findAsking kt (.agg xs) ms n).run P w=.ok (some (i,u)) w)∧Rel C v u
   | none=>∀ w,(Instr.findAsking kt (.agg xs) ms n).run P w=.ok none w
 | [],[],n,r,_,_,h=>by simp [agget]at h; subst h; intro w; rfl
 | [],_::_,_,_,hl,_,_=>by simp at hl
 | _::_,[],_,_,hl,_,_=>by simp at hl
 | (k',v)::es,m::ms,n,r,hle,hr,h=>by
  obtain ⟨r1,r2⟩:=hr 0 k' v m rfl rfl;have ih:=aget_ask hu hk hx hl es ms (n+1) r (by simpa using hle) (fun i k v m h1 h2=>hr (i+1) k v m (by simpa using h1) (by simpa using h2));cases k' <;> simp only [agget]at h <;> (first | cases h | skip)
  rename_i bs;split at h
  ·rename_i hlb
   obtain ⟨vs,e2,q2⟩:=agg_inv r1;have heq:∀ b w,eqCells ks as bs=some b→(Op.equal kt (.agg xs) m.key).run P w=.ok b w:=fun b w he=>by
    rw [e2]; exact eqTop hu hk hx q2 hl hlb he w
   split at h
   ·rename_i he
    injection h with h; subst h
    exact ⟨n,m.val,fun w=>by simp [Instr.findAsking,heq true w he],r2⟩
   ·rename_i he
    have ih:=ih h;cases r with
    | none=>intro w; simp only [Instr.findAsking,Sem.run_bind,heq false w he,Result.andThen_ok,Bool.false_eq_true,if_false]; exact ih w
    | some v=>
     obtain ⟨i,u,k1,k2⟩:=ih;exact ⟨i,u,fun w=>by simp only [Instr.findAsking,Sem.run_bind,heq false w he,Result.andThen_ok,Bool.false_eq_true,if_false]; exact k1 w,k2⟩
   ·cases h
  ·cases h
theorem findKey_ask{kt:TypeId}{fs:Array Field}(hu:P.underlying kt=some (.struct fs)){xs:Array Value}{ms:List MapEntry}{r:Option (Nat×Value)}{w:World}(h:(Instr.findAsking kt (.agg xs) ms).run P w=.ok r w):(Instr.findKey kt (.agg xs) ms).run P w=.ok r w:=by
 simp only [Instr.findKey,Sem.run_bind,run_underlying hu,Result.andThen_ok]
 cases ms with
 | nil=>
  simp only [Instr.findAsking,Sem.run_pure,Result.ok.injEq]at h;simp [Instr.findNow,h.1]
 | cons m ms=>
  have:Instr.findNow (.struct fs) (.agg xs) (m::ms) 0=none:=by simp [Instr.findNow,Instr.sameNow]
  rw [this]; exact h
theorem lookA_sound(hi:Inv B C h w){ks:List EK}{t kt et:TypeId}{fs:Array Field}(ht:P.underlying t=some (.map kt et))(hu:P.underlying kt=some (.struct fs))(hk:flatEq P 100 kt=some ks)
  {z:AV} (hz:tzeroV P et=some z) {ok:Bool} {m k v:AV} {x y:Value} (hx:Rel C m x) (hy:Rel C k y)
  (hev:evalPure h (.lookA ks ok z) [m,k]=some v):∃ u,Rel C v u∧(Instr.lookup t x y ok).run P w=.ok u w:=by
 obtain ⟨zu,hzr,hzw⟩:=run_zeroV (C:=C) hz
 cases k <;> simp only [evalPure]at hev <;> (first | cases hev | skip)
 rename_i as
 split at hev
 ·rename_i hla
  obtain ⟨xs,rfl,hxs⟩:=agg_inv hy;have hsz:xs.size=ks.length:=by have:=hxs.1; simp at this; omega
  have fin:∀ {r:Option AV} {u:Option Value},(match r,u with | some a,some b=>Rel C a b | none,none=>True | _,_=>False)→v=(if ok then .tup [r.getD z,.bool r.isSome]else r.getD z)→
    ∃ uu,Rel C v uu∧uu=(if ok then .tuple #[u.getD zu,.bool u.isSome]else u.getD zu):=by
   intro r u hru hv;refine ⟨_,?_,rfl⟩
   subst hv;have h0:Rel C (r.getD z) (u.getD zu):=by
    cases r <;> cases u <;> first | exact hru.elim | exact hzr | exact hru
   have h1:r.isSome=u.isSome:=by cases r <;> cases u <;> first | exact hru.elim | rfl
   cases ok with
   | false=>exact h0
   | true=>
    simp only [if_true];refine .tup _ _ rfl fun i c q hc hq=>?_
    match i with
    | 0=>simp at hc hq; subst hc hq; exact h0
    | 1=>simp at hc hq; subst hc hq; rw [h1]; exact .bool _
    | _+2=>simp at hc
  cases m <;> simp only at hev <;> (first | cases hev | skip)
  case map l=>
   split at hev
   ·rename_i es hx'
    cases hx with
    | map _ b hb=>
     obtain ⟨b',ms,ck,h1,h2,h3,h4,h5,_⟩:=hi.ok l _ hx';rw [hb]at h1; injection h1 with h1; subst h1
     cases hg:agget ks as es with
     | none=>simp [hg]at hev
     | some r=>
      simp only [hg,Option.map_some,Option.some.injEq]at hev;have hask:=aget_ask hu hk hxs hla es ms.toList 0 r (by simpa using h4) (fun i k v m h1 h2=>by
       have:=h5 i k v m h1 (by simpa using h2);exact ⟨this.1.mono C.frozen_le,this.2.mono C.frozen_le⟩) hg
      cases r with
      | none=>
       simp only at hask;obtain ⟨uu,k1,k2⟩:=fin (r:=none) (u:=none) trivial (by rw [← hev]);refine ⟨uu,k1,?_⟩
       rw [k2];simp [Instr.lookup,run_underlying ht,getObj,Sem.run,h3,ckTop hu hk hsz,findKey_ask hu (hask w),hzw]
      | some v'=>
       obtain ⟨i,u,q1,q2⟩:=hask;obtain ⟨uu,k1,k2⟩:=fin (r:=some v') (u:=some u) q2 (by rw [← hev]);refine ⟨uu,k1,?_⟩
       rw [k2];simp [Instr.lookup,run_underlying ht,getObj,Sem.run,h3,ckTop hu hk hsz,findKey_ask hu (q1 w)]
   ·cases hev
  case agg.isTrue.nilm.refl=>
   cases hx
   obtain ⟨uu,k1,k2⟩:=fin (r:=none) (u:=none) trivial rfl;refine ⟨uu,k1,?_⟩
   rw [k2];have:=findKey_ask (P:=P) (xs:=xs) (ms:=[]) (r:=none) (w:=w) hu rfl;simp [Instr.lookup,run_underlying ht,ckTop hu hk hsz,this,hzw]
 ·cases hev
theorem eqCells_same:∀ {ks:List EK} {as bs:List AV} {xs ys:List Value},eqCells ks as bs=some true→as.length=ks.length→bs.length=ks.length→RelL C as xs→RelL C bs ys→xs=ys∧∀ n,(xs.zip ys).all (fun (x,y)=>Instr.sameBits n x y)=true
 | [],as,bs,xs,ys,_,ha,hb,hx,hy=>by
  have:as=[]:=List.eq_nil_of_length_eq_zero ha;have:bs=[]:=List.eq_nil_of_length_eq_zero hb;subst as; subst bs;rw [hx.inv_nil,hy.inv_nil]; exact ⟨rfl,fun n=>rfl⟩
 | k::ks,[],_,_,_,_,ha,_,_,_=>by simp at ha
 | k::ks,_::_,[],_,_,_,_,hb,_,_=>by simp at hb
 | k::ks,a::as,b::bs,xs,ys,he,ha,hb,hx,hy=>by
  obtain ⟨x,xs,rfl,hx1,hx2⟩:=hx.inv_cons;obtain ⟨y,ys,rfl,hy1,hy2⟩:=hy.inv_cons;have key:x=y∧(∀ n,Instr.sameBits n x y=true)∧eqCells ks as bs=some true:=by
   cases k <;> cases a <;> cases b <;> simp only [eqCells]at he <;> (first | cases he | skip)
   ·split at he
    ·rename_i h1; subst h1; rw [bool_inv hx1,bool_inv hy1]; exact ⟨rfl,fun n=>by cases n <;> simp [Instr.sameBits],he⟩
    ·simp at he
   ·split at he
    ·rename_i h0
     split at he
     ·rename_i h1; subst h0 h1; rw [int_inv hx1,int_inv hy1]; exact ⟨rfl,fun n=>by cases n <;> simp [Instr.sameBits],he⟩
     ·simp at he
    ·cases he
   ·split at he
    ·rename_i h1; subst h1; rw [str_inv hx1,str_inv hy1]; exact ⟨rfl,fun n=>by cases n <;> (simp only [Instr.sameBits]; rw [beq_toListBytes]; simp),he⟩
    ·simp at he
  obtain ⟨rfl,k2,k3⟩:=key;obtain ⟨rfl,k5⟩:=eqCells_same k3 (by simpa using ha) (by simpa using hb) hx2 hy2;exact ⟨rfl,fun n=>by simp only [List.zip_cons_cons,List.all_cons,k2 n,Bool.true_and]; exact k5 n⟩
theorem aput_ask{kt:TypeId}{fs:Array Field}(hu:P.underlying kt=some (.struct fs)){ks:List EK}(hk:flatEq P 100 kt=some ks){xs:Array Value}{as:List AV}(hx:RelL C as xs.toList)(hl:as.length=ks.length)(hxr:Rel C (.agg as) (.agg xs)){v:AV}{y:Value}(hy:Rel C v y) :
  ∀ (es:List (AV×AV)) (ms:List MapEntry) (n:Nat) (es':List (AV×AV)),es.length=ms.length→(∀ (i:Nat) k v m,es[i]?=some (k,v)→ms[i]?=some m→Rel C k m.key∧Rel C v m.val)→agput ks as v es=some es'→
   (∃ i u key,(∀ w,(Instr.findAsking kt (.agg xs) ms n).run P w=.ok (some (n+i,u)) w)∧(ms[i]?).map (·.key)=some key∧Instr.sameBits 10000 key (.agg xs)=true∧i<ms.length∧
    es'.length=ms.length∧(∀ (j:Nat) k v m,es'[j]?=some (k,v)→(ms.modify i fun m=>{ m with key:=.agg xs,val:=y })[j]?=some m→Rel C k m.key∧Rel C v m.val)) ∨
   ((∀ w,(Instr.findAsking kt (.agg xs) ms n).run P w=.ok none w)∧es'=es++[(.agg as,v)])
 | [],[],n,es',_,_,h=>by simp [agput]at h; subst h; exact .inr ⟨fun w=>rfl,rfl⟩
 | [],_::_,_,_,hl,_,_=>by simp at hl
 | _::_,[],_,_,hl,_,_=>by simp at hl
 | (k',v')::es,m::ms,n,es',hle,hr,h=>by
  obtain ⟨r1,r2⟩:=hr 0 k' v' m rfl rfl;have hrt:∀ (i:Nat) k v m,es[i]?=some (k,v)→ms[i]?=some m→Rel C k m.key∧Rel C v m.val:=fun i k v m h1 h2=>hr (i+1) k v m (by simpa using h1) (by simpa using h2)
  cases k' <;> simp only [agput]at h <;> (first | cases h | skip)
  rename_i bs;split at h
  ·rename_i hlb
   obtain ⟨vs,e2,q2⟩:=agg_inv r1;have heq:∀ b w,eqCells ks as bs=some b→(Op.equal kt (.agg xs) m.key).run P w=.ok b w:=fun b w he=>by
    rw [e2]; exact eqTop hu hk hx q2 hl hlb he w
   split at h
   ·rename_i he
    injection h with h; subst h
    obtain ⟨s1,s2⟩:=eqCells_same he hl hlb hx q2;have s1':xs=vs:=by rw [← Array.toList_inj]; exact s1
    subst s1';refine .inl ⟨0,m.val,m.key,fun w=>by simp [Instr.findAsking,heq true w he],rfl,?_,by simp,by simpa using hle,fun j a b q h1 h2=>?_⟩
    ·rw [e2]
     simp only [Instr.sameBits,beq_self_eq_true,Bool.true_and];exact s2 9999
    ·cases j with
     | zero=>
      simp at h1 h2;obtain ⟨rfl,rfl⟩:=h1;subst h2;refine ⟨?_,hy⟩
      rw [← e2]; exact r1
     | succ j=>simp at h1 h2; exact hrt j a b q h1 h2
   ·rename_i he
    simp only [Option.map_eq_some_iff]at h;obtain ⟨es2,hp,rfl⟩:=h;rcases aput_ask hu hk hx hl hxr hy es ms (n+1) es2 (by simpa using hle) hrt hp with ⟨i,u,key,a1,a2,a3,a4,a5,a6⟩ | ⟨a1,a2⟩
    ·refine .inl ⟨i+1,u,key,fun w=>?_,by simpa using a2,a3,by simp; omega,by simp [a5],fun j a b q h1 h2=>?_⟩
     ·simp only [Instr.findAsking,Sem.run_bind,heq false w he,Result.andThen_ok,Bool.false_eq_true,if_false]
      rw [a1 w]; congr 3; omega
     ·cases j with
      | zero=>simp at h1 h2; obtain ⟨rfl,rfl⟩:=h1; subst h2; exact ⟨r1,r2⟩
      | succ j=>simp at h1 h2; exact a6 j a b q h1 h2
    ·refine .inr ⟨fun w=>?_,by simp [a2]⟩
     simp only [Instr.findAsking,Sem.run_bind,heq false w he,Result.andThen_ok,Bool.false_eq_true,if_false];exact a1 w
   ·cases h
  ·cases h
theorem plainKey_any:∀ {ks:List EK} {as:List AV} {xs:List Value},plainCells ks as=true→RelL C as xs→RelL D as xs
 | [],[],xs,_,hx=>by rw [hx.inv_nil]; exact .nil
 | [],_::_,_,h,_=>by simp [plainCells]at h
 | _::_,[],_,h,_=>by simp [plainCells]at h
 | k::ks,a::as,xs,h,hx=>by
  obtain ⟨x,xs,rfl,hx1,hx2⟩:=hx.inv_cons;simp only [plainCells,Bool.and_eq_true]at h;exact .cons (key_any h.1 hx1) (plainKey_any h.2 hx2)
theorem mapupA_sound(hi:Inv B C h w){t kt et:TypeId}{ks:List EK}{fs:Array Field}(ht:P.underlying t=some (.map kt et))(hu:P.underlying kt=some (.struct fs))(hk:flatEq P 100 kt=some ks){l:Nat}{as:List AV}{v u:AV}{x y z:Value}{h1:Heap}{es es':List (AV×AV)}
  (hx:Rel C (.map l) x) (hy:Rel C (.agg as) y) (hz:Rel C v z) (hpl:plainCells ks as=true) (hla:as.length=ks.length) (hf:frz h v=some (u,h1)) (hl:h1[l]?=some (.map es)) (hp:agput ks as u es=some es') :
  ∃ D w',(Instr.mapUpdate t x y z).run P w=.ok () w'∧C.Le D∧Inv B D (h1.set l (.map es')) w'∧Keep B w w':=by
 obtain ⟨D,d1,d2,d3,d4,d5⟩:=frz_sound hi hf hz
 obtain ⟨xs,rfl,hxs⟩:=agg_inv hy
 have hsz:xs.size=ks.length:=by have:=hxs.1; simp at this; omega
 cases hx with
 | map _ b hb=>
  obtain ⟨b',ms,ck,a1,a2,a3,a4,a5,a6,a7⟩:=d2.ok l _ hl;rw [d4,hb]at a1; injection a1 with a1; subst a1
  have hbD:D.bl l=some b:=by rw [d4]; exact hb
  have hyp:RelL (Cx.pure D.im) as xs.toList:=plainKey_any hpl hxs;have hya:Rel (Cx.pure D.im) (.agg as) (.agg xs):=.agg as xs (by simpa using hyp.1) fun i c q hc hq=>hyp.2 i c q hc (by simpa using hq)
  have hlen:es.length=ms.toList.length:=by simpa using a4
  rcases aput_ask hu hk hyp hla hya d3 es ms.toList 0 es' hlen (fun i k v m p q=>a5 i k v m p (by simpa using q)) hp with ⟨i,u0,key,b1,b2,b3,b4,b5,b6⟩ | ⟨b1,b2⟩
  ·have hrun:(Instr.mapUpdate t (.map (some b)) (.agg xs) z).run P w=.ok () (World.put w b (.map (ms.modify i fun m=>{ m with key:=.agg xs,val:=z }) ck)):=by
    have hg:(ms[i]?).map (·.key)=some key:=by simpa using b2
    simp only [Instr.mapUpdate,Sem.run_bind,run_underlying ht,Result.andThen_ok,getObj,Sem.run,a3,ckTop hu hk hsz,findKey_ask hu (b1 w),Nat.zero_add];simp [hg,Instr.keyThatStays,b3,setObj,Sem.run,a3,World.put]
   refine ⟨D,_,hrun,d1,turn_obj d2 hl hbD (by simp [blockOf,hbD]) a3 (fun c e f=>by simp) a2 ?_ (fun b' hb'=>by simp [blockOf,hbD]at hb'; exact hb'.symm) (fun _ _ _ _=>by simp),put_below a2 a3 (fun c=>by simp)⟩
   refine ⟨b,_,ck,hbD,a2,put_same a3,?_,(fun j k v m p q=>?_),by simpa using a6,fun j m q=>?_⟩
   ·simpa using b5
   ·refine b6 j k v m p ?_
    rw [← Array.toList_modify,Array.getElem?_toList]; exact q
   ·rw [Array.getElem?_modify]at q
    split at q
    ·simp only [Option.map_eq_some_iff]at q
     obtain ⟨m0,q1,rfl⟩:=q;exact a7 j m0 q1
    ·exact a7 j m q
  ·subst b2
   have hrun:(Instr.mapUpdate t (.map (some b)) (.agg xs) z).run P w=.ok () (World.put w b (.map (ms.push { key:=.agg xs,val:=z,born:=ck }) (ck+1))):=by
    simp only [Instr.mapUpdate,Sem.run_bind,run_underlying ht,Result.andThen_ok,getObj,Sem.run,a3,ckTop hu hk hsz,findKey_ask hu (b1 w)];simp [setObj,Sem.run,a3,World.put]
   refine ⟨D,_,hrun,d1,turn_obj d2 hl hbD (by simp [blockOf,hbD]) a3 (fun c e f=>by simp) a2 ?_ (fun b' hb'=>by simp [blockOf,hbD]at hb'; exact hb'.symm) (fun _ _ _ _=>by simp),put_below a2 a3 (fun c=>by simp)⟩
   refine ⟨b,_,ck+1,hbD,a2,put_same a3,by simp [a4],(fun j k' v' m p q=>?_),by simp [a6],fun j m q=>?_⟩
   rotate_left
   ·rw [Array.getElem?_push]at q
    split at q
    ·rename_i e
     injection q with q; subst q; show ck=j; omega
    ·exact a7 j m q
   by_cases hj:j<es.length
   ·rw [List.getElem?_append_left hj]at p
    rw [Array.getElem?_push,if_neg (by omega)]at q;exact a5 j k' v' m p q
   ·rw [List.getElem?_append_right (by omega)]at p
    have hj0:j-es.length=0:=by
     rcases Nat.eq_zero_or_pos (j-es.length)with e | e
     ·exact e
     ·rw [List.getElem?_eq_none (by simp; omega)]at p; cases p
    rw [hj0]at p; simp at p;obtain ⟨rfl,rfl⟩:=p;rw [Array.getElem?_push,if_pos (by omega)]at q;injection q with q; subst q
    exact ⟨hya,d3⟩
end
end Go.Proofs.YtpefhfiehfkocaaGreatDoor
namespace Go.Proofs.YtpefhfiehfkocaaGreatDoor
open Go.RowKit
section
variable {P:Program} {B:Base} {C D:Cx} {h:Heap} {w w':World}
theorem ment_sound(hi:Inv B C h w){t kt et:TypeId}{e:EK}(ht:P.underlying t=some (.map kt et))(hk:keyKind P kt=some e){z:AV}(hz:tzeroV P et=some z){l:Nat}{k:AV}{x y:Value}{es:List (AV×AV)}
  (hx:Rel C (.map l) x) (hy:Rel C k y) (hkey:isKey e k=true) (hl:h[l]?=some (.map es)) (hg:mget e k es=some none) :
  ∃ u w',(Instr.mapEntry t x y).run P w=.ok u w'∧Inv B C (h.set l (.map (es++[(k,z)]))) w'∧Rel C (.tup [z,.int .i64 es.length]) u∧Keep B w w':=by
 obtain ⟨d,hkd,hd⟩:=keyKind_spec' hk
 have hd':(match (generalizing:=false) e with | .s=>d=.string | .i=>∃ q,d=.int q | .b=>d=.bool):=by cases e <;> exact hd
 obtain ⟨zu,hzr,hzw⟩:=run_zeroV (C:=Cx.pure C.im) hz
 cases hx with
 | map _ b hb=>
  obtain ⟨b',ms,ck,a1,a2,a3,a4,a5,a6,a7⟩:=hi.ok l _ hl;rw [hb]at a1; injection a1 with a1; subst a1
  have hyp:Rel (Cx.pure C.im) k y:=key_any hkey hy;have hnow:=mget_now hd' hyp es ms.toList 0 none (by simpa using a4) (fun i k v m p q=>a5 i k v m p (by simpa using q)) hg;simp only at hnow;have hrun:(Instr.mapEntry t (.map (some b)) y).run P w=.ok (.tuple #[zu,goInt ck]) (World.put w b (.map (ms.push { key:=y,val:=zu,born:=ck }) (ck+1))):=by
   simp only [Instr.mapEntry,Sem.run_bind,run_underlying ht,Result.andThen_ok,getObj,Sem.run,a3,run_checkKey hd' hkd,Instr.findKey,run_underlying hkd,hnow,Sem.run_pure,hzw];simp [setObj,Sem.run,a3,World.put]
  refine ⟨_,_,hrun,turn_obj hi hl hb (by simp [blockOf,hb]) a3 (fun c e f=>by simp) a2 ?_ (fun b' hb'=>by simp [blockOf,hb]at hb'; exact hb'.symm) (fun _ _ _ _=>by simp),?_,put_below a2 a3 (fun c=>by simp)⟩
  ·refine ⟨b,_,ck+1,hb,a2,put_same a3,by simp [a4],(fun j k' v' m p q=>?_),by simp [a6],fun j m q=>?_⟩
   rotate_left
   ·rw [Array.getElem?_push]at q
    split at q
    ·rename_i e
     injection q with q; subst q; show ck=j; omega
    ·exact a7 j m q
   by_cases hj:j<es.length
   ·rw [List.getElem?_append_left hj]at p
    rw [Array.getElem?_push,if_neg (by omega)]at q;exact a5 j k' v' m p q
   ·rw [List.getElem?_append_right (by omega)]at p
    have hj0:j-es.length=0:=by
     rcases Nat.eq_zero_or_pos (j-es.length)with e | e
     ·exact e
     ·rw [List.getElem?_eq_none (by simp; omega)]at p; cases p
    rw [hj0]at p; simp at p;obtain ⟨rfl,rfl⟩:=p;rw [Array.getElem?_push,if_pos (by omega)]at q;injection q with q; subst q
    exact ⟨hyp,hzr⟩
  ·refine .tup _ #[zu,goInt ck] rfl (fun i c u hc hu=>?_)
   match i with
   | 0=>simp at hc hu; subst hc hu; exact hzr.mono C.frozen_le
   | 1=>
    simp at hc hu; subst hc hu;rw [show (ck:Int)=(es.length:Int)by omega];exact .int _ _
   | _+2=>simp at hc
theorem find_at{ms:Array MapEntry}(hb:∀ (i:Nat) m,ms[i]?=some m→m.born=i){i:Nat}(hi:i<ms.size):ms.findIdx? (fun e=>(e.born:Int) == (i:Int))=some i:=by
 rw [Array.findIdx?_eq_some_iff_getElem]
 refine ⟨hi,?_,fun j hj=>?_⟩
 ·have:=hb i ms[i] (Array.getElem?_eq_getElem hi); simp [this]
 ·have:=hb j ms[j] (Array.getElem?_eq_getElem (by omega)); simp [this]; omega
theorem estore_sound(hi:Inv B C h w){t:TypeId}{l i:Nat}{k v u ov:AV}{x s z:Value}{h1:Heap}{es:List (AV×AV)}
  (hx:Rel C (.map l) x) (hs:Rel C (.int .i64 (i:Int)) s) (hz:Rel C v z) (hf:frz h v=some (u,h1)) (hl:h1[l]?=some (.map es)) (he:es[i]?=some (k,ov)) :
  ∃ D w',(Instr.entryStore t x s z).run P w=.ok () w'∧C.Le D∧Inv B D (h1.set l (.map (es.set i (k,u)))) w'∧Keep B w w':=by
 obtain ⟨D,d1,d2,d3,d4,d5⟩:=frz_sound hi hf hz
 rw [int_inv hs]
 cases hx with
 | map _ b hb=>
  obtain ⟨b',ms,ck,a1,a2,a3,a4,a5,a6,a7⟩:=d2.ok l _ hl;rw [d4,hb]at a1; injection a1 with a1; subst a1
  have hbD:D.bl l=some b:=by rw [d4]; exact hb
  have hil:i<es.length:=(List.getElem?_eq_some_iff.1 he).1;have hrun:(Instr.entryStore t (.map (some b)) (.int .i64 (i:Int)) z).run P w=.ok () (World.put w b (.map (ms.modify i fun m=>{ m with val:=z }) ck)):=by
   simp only [Instr.entryStore,Sem.run_bind,getObj,Sem.run,a3,Result.andThen_ok,asInt,asIntOf,Sem.run_pure,find_at a7 (show i<ms.size by omega)];simp [setObj,Sem.run,a3,World.put]
  refine ⟨D,_,hrun,d1,turn_obj d2 hl hbD (by simp [blockOf,hbD]) a3 (fun c e f=>by simp) a2 ?_ (fun b' hb'=>by simp [blockOf,hbD]at hb'; exact hb'.symm) (fun _ _ _ _=>by simp),put_below a2 a3 (fun c=>by simp)⟩
  refine ⟨b,_,ck,hbD,a2,put_same a3,by simpa using a4,(fun j k' v' m p q=>?_),by simpa using a6,fun j m q=>?_⟩
  ·rw [Array.getElem?_modify]at q
   by_cases hj:i=j
   ·subst hj
    rw [if_pos rfl]at q;rw [List.getElem?_set_self hil]at p;simp only [Option.some.injEq,Prod.mk.injEq]at p;obtain ⟨rfl,rfl⟩:=p;simp only [Option.map_eq_some_iff]at q;obtain ⟨m0,q1,rfl⟩:=q;exact ⟨(a5 i k ov m0 he q1).1,d3⟩
   ·rw [if_neg hj]at q
    rw [List.getElem?_set_ne hj]at p;exact a5 j k' v' m p q
  ·rw [Array.getElem?_modify]at q
   split at q
   ·simp only [Option.map_eq_some_iff]at q
    obtain ⟨m0,q1,rfl⟩:=q;exact a7 j m0 q1
   ·exact a7 j m q
end
end Go.Proofs.YtpefhfiehfkocaaGreatDoor
namespace Go.Proofs.YtpefhfiehfkocaaGreatDoor
open Go.RowKit
structure Holds (I:Nat→Nat→Option Value) (w:World):Prop where
 cell:∀ b o u,I b o=some u→w.cell? ⟨b,o,none⟩=some u
 one:∀ b o u,I b o=some u→u.oneCell'=true
structure Grown (w:World) (I J:Nat→Nat→Option Value):Prop where
 up:∀ b o u,I b o=some u→J b o=some u
 down:∀ b o u,J b o=some u→b<w.heap.size→I b o=some u
structure GvHolds (gv:Gv) (I:Nat→Nat→Option Value) (w:World):Prop where
 gl:∀ g r,gv g=some r→Rel (Cx.pure I) (.fptr r 0) (.pointer (some ⟨g,0,none⟩))
 tb:∀ g cs,gv.tb g=some cs→∃ T fz,w.heap[g]?=some (.cells cs.toArray T fz)
def PureOK(P:Program)(gv:Gv)(f:FuncId)(F:List AV→Option AV):Prop:=
 ∀ (I:Nat→Nat→Option Value) (w:World) (args:List AV) (r:AV) (vals:Array Value),Holds I w→GvHolds gv I w→RelL (Cx.pure I) args vals.toList→F args=some r→
  Calls P f vals w fun e w'=>∃ v J,e=.returned v∧Grown w I J∧Holds J w'∧Rel (Cx.pure J) r v∧Below w.heap.size w w'
def GenOK(P:Program)(gv:Gv)(f:FuncId)(F:List AV→Heap→Option (AV×Heap)):Prop:=
 ∀ (B:Base) (C:Cx) (h:Heap) (w:World) (args:List AV) (r:AV) (h':Heap) (vals:Array Value),B.gv=gv→Inv B C h w→RelL C args vals.toList→F args h=some (r,h')→
  Calls P f vals w fun e w'=>∃ v D,e=.returned v∧C.Le D∧Inv B D h' w'∧Rel D r v∧Keep B w w'
def YOK(P:Program)(B:Base)(Y:Nat→List AV→Heap→Option (AV×Heap)):Prop:=
 ∀ (B':Base),B.Up B'→∀ (k:Nat) (args:List AV) (h:Heap) (v:AV) (h':Heap),Y k args h=some (v,h')→∀ (C:Cx) (w:World) (b:Nat) (vals:Array Value),C.bl k=some b→Inv B' C h w→RelL C args vals.toList→
  YieldAt Fence.wide 0 P b vals w fun e w'=>∃ u D,e=.returned u∧C.Le D∧Inv B' D h' w'∧Rel D v u∧Keep B' w w'
def runYN(F:RdF)(y:List AV→Heap→Option (AV×Heap)):Nat→Nat→Heap→Heap→Prop
 | 0,_,_,_=>False
 | N+1,j,h,h'=>match F j h with
  | none=>False
  | some (none,h1)=>h'=h1
  | some (some args,h1)=>match y args h1 with
   | some (.bool true,h2)=>runYN F y N (j+1) h2 h'
   | some (.bool false,h2)=>h'=h2
   | _=>False
def ItOK(P:Program)(gv:Gv)(f:FuncId)(F:ItF):Prop:=
 ∀ (B:Base) (C:Cx) (h h':Heap) (w:World) (caps:List AV) (vals:Array Value) (k b N:Nat) (Y:Nat→List AV→Heap→Option (AV×Heap)),B.gv=gv→Inv B C h w→RelL C caps vals.toList→C.bl k=some b→YOK P B Y→
  runYN (F caps h) (Y k) N 0 h h'→
  Calls P f (#[.func (.yield b) #[] #[]]++vals) w fun e w'=>∃ v D,e=.returned v∧C.Le D∧Inv B D h' w'∧Keep B w w'
def CT.OK(P:Program)(gv:Gv)(f:FuncId):CT→Prop
 | .pure F=>PureOK P gv f F
 | .gen F=>GenOK P gv f F
 | .iter F=>ItOK P gv f F
def Enters(P:Program)(f:FuncId):Prop:=∀ args w,(callFunc f args).run P w=.ok (.enter f args) w
structure GamOK (P:Program) (gv:Gv) (G:Gam):Prop where
 enters:∀ f c,G f=some c→Enters P f
 ok:∀ f c,G f=some c→c.OK P gv f
 noy:∀ k args h,G.y k args h=none
structure GamB (P:Program) (B:Base) (G:Gam):Prop where
 enters:∀ f c,G f=some c→Enters P f
 ok:∀ f c,G f=some c→c.OK P B.gv f
 y:YOK P B G.y
theorem GamOK.b{P:Program}{B:Base}{G:Gam}(h:GamOK P B.gv G):GamB P B G:=⟨h.enters,h.ok,fun B' _ k args hh v h' e=>by rw [h.noy]at e; cases e⟩
theorem GamB.up{P:Program}{B D:Base}{G:Gam}(h:GamB P B G)(hu:B.Up D):GamB P D G:=by
 refine ⟨h.enters,?_,fun E hE=>h.y E (hu.trans hE)⟩
 obtain ⟨rc,cx,rfl,_,_⟩:=hu
 exact h.ok
theorem GamOK.withY{P:Program}{B:Base}{G:Gam}{Y:Nat→List AV→Heap→Option (AV×Heap)}(h:GamOK P B.gv G)(hy:YOK P B Y):GamB P B { G with y:=Y }:=⟨h.enters,h.ok,hy⟩
section
variable {P:Program} {B:Base} {C D:Cx} {h:Heap} {w w':World} {G:Gam}
theorem Inv.holds(hi:Inv B C h w):Holds C.im w:=⟨hi.im,hi.one⟩
mutual
theorem scalar_rel:∀ {v:AV} {u:Value},scalar v=true→Rel C v u→Rel D v u
 | .bool b,u,_,h=>by rw [bool_inv h]; exact .bool b
 | .int k n,u,_,h=>by rw [int_inv h]; exact .int k n
 | .str s,u,_,h=>by rw [str_inv h]; exact .str s
 | .tup vs,u,hs,h=>by
  cases h with
  | tup cs us hl h=>exact .tup _ _ hl (fun i c v hc hv=>scalar_relL (by simpa [scalar] using hs) (us:=us.toList) ⟨by simpa using hl,fun i c v hc hv=>h i c v hc (by simpa using hv)⟩ |>.2 i c v hc (by simpa using hv))
 | .agg _,_,hs,_ | .sl _,_,hs,_ | .tsl _,_,hs,_ | .nils,_,hs,_ | .own _ _ _,_,hs,_ | .win _ _ _ _,_,hs,_ | .ptr _ _,_,hs,_ | .fptr _ _,_,hs,_ | .eptr _ _ _ _,_,hs,_ | .gptr _ _,_,hs,_ | .nilp,_,hs,_
 | .map _,_,hs,_ | .nilm,_,hs,_ | .fn _ _,_,hs,_ | .mth _ _,_,hs,_ | .nilf,_,hs,_ | .iface _ _,_,hs,_ | .nili,_,hs,_ | .yld _,_,hs,_ | .junk,_,hs,_=>by simp [scalar]at hs
theorem scalar_relL:∀ {vs:List AV} {us:List Value},scalarL vs=true→RelL C vs us→RelL D vs us
 | [],us,_,h=>by rw [h.inv_nil]; exact .nil
 | a::as,us,hs,h=>by
  obtain ⟨u,us',rfl,h1,h2⟩:=h.inv_cons;simp only [scalarL,Bool.and_eq_true]at hs;exact .cons (scalar_rel hs.1 h1) (scalar_relL hs.2 h2)
end
theorem call_sound(hG:GamB P B G)(hi:Inv B C h w){f:FuncId}{args:List AV}{vals:Array Value}{r:AV}{h':Heap}(hr:RelL C args vals.toList)(he:callAV G f args h=some (r,h')) :
  Calls P f vals w fun e w'=>∃ v D,e=.returned v∧C.Le D∧Inv B D h' w'∧Rel D r v∧Keep B w w':=by
 unfold callAV at he
 split at he
 ·rename_i F hf
  have hok:PureOK P B.gv f F:=hG.ok f _ hf;split at he
  ·rename_i us hus
   split at he
   ·rename_i r' hF
    have hfz:frzL h args=some (us,freezeAll h (ownsL args)):=by simp [frzL,hus]
    obtain ⟨D,d1,d2,d3,d4,d5⟩:=frzL_sound hi hfz hr;have hc:=hok D.im w us r' vals d2.holds ⟨d2.gl,fun g cs hg=>(d2.tb g cs hg).2⟩ d3 hF;split at he
    ·rename_i hs
     simp only [Option.some.injEq,Prod.mk.injEq]at he; obtain ⟨rfl,rfl⟩:=he;refine hc.mono fun e w' hk=>?_
     obtain ⟨v,J,k1,k2,k3,k4,k5⟩:=hk;exact ⟨v,C,k1,.refl C,hi.grow k5,scalar_rel hs k4,below_of hi k5⟩
    ·simp only [Option.some.injEq,Prod.mk.injEq]at he; obtain ⟨rfl,rfl⟩:=he
     refine hc.mono fun e w' hk=>?_
     obtain ⟨v,J,k1,k2,k3,k4,k5⟩:=hk;have hle:D.Le { D with im:=J }:=⟨k2.up,fun _ _ x=>x,fun _ _ _ x=>x⟩;have hext:Ext w D { D with im:=J }:=⟨hle,fun b o hb=>by
      show J b o=D.im b o
      cases hd:D.im b o with
      | some u=>exact k2.up _ _ _ hd
      | none=>
       cases hj:J b o with
       | none=>rfl
       | some u=>have:=k2.down _ _ _ hj hb; rw [hd]at this; cases this⟩
     exact ⟨v,{ D with im:=J },k1,d1.trans hle,d2.extend hext k5 k3.cell k3.one d2.fr d2.fv,k4.mono ⟨fun _ _ _ x=>x,(fun _ _ x=>by cases x),(fun _ _ _ x=>by cases x)⟩,below_of hi k5⟩
   ·cases he
  ·cases he
 ·rename_i F hf
  exact hG.ok f _ hf B C h w args r h' vals rfl hi hr he
 ·cases he
def compCall:Op→Option (AO×List Operand)
 | .call { callee:=.value (.func f),args,.. }=>some (.call f,args.toList)
 | .call { callee:=.value x,args,.. }=>some (.callv,x::args.toList)
 | _=>none
def compMore(P:Program):Op→Option (AO×List Operand)
 | .entry it=>some (.ent,[it])
 | .lookup t x i ok=>match P.underlying t with
  | some (.map kt et)=>(match P.underlying kt with
   | some (.struct _)=>(match flatEq P 100 kt,tzeroV P et with
    | some ks,some z=>some (.lookA ks ok z,[x,i])
    | _,_=>none)
   | _=>none)
  | _=>none
 | .mapUpdate t m k v=>match P.underlying t with
  | some (.map kt _)=>(match P.underlying kt with
   | some (.struct _)=>(flatEq P 100 kt).map fun ks=>(.mapupA ks,[m,k,v])
   | _=>none)
  | _=>none
 | .insert t m k v=>match P.underlying t with
  | some (.map kt _)=>(match P.underlying kt with
   | some (.struct _)=>(flatEq P 100 kt).map fun ks=>(.mapupA ks,[m,k,v])
   | _=>none)
  | _=>none
 | .binOp op t x (.const (.slice none 0 0)) _=>match P.underlying t with
  | some (.slice _)=>(match op with
   | .eql=>some (.isnil false,[x])
   | .neq=>some (.isnil true,[x])
   | _=>none)
  | _=>none
 | .binOp op t x (.const .nilIface) _=>match P.underlying t with
  | some (.interface _)=>(match op with
   | .eql=>some (.isnili false,[x])
   | .neq=>some (.isnili true,[x])
   | _=>none)
  | _=>none
 | .binOp op t x (.const (.pointer none)) _=>match P.underlying t with
  | some (.pointer _)=>(match op with
   | .eql=>some (.isnilp false,[x])
   | .neq=>some (.isnilp true,[x])
   | _=>none)
  | _=>none
 | .convert s d x=>match P.underlying s,P.underlying d with
  | some (.slice e),some .string=>(match P.underlying e with
   | some (.int .u8)=>some (.b2s,[x])
   | _=>none)
  | some .string,some (.slice e)=>(match P.underlying e with
   | some (.int .u8)=>some (.s2b,[x])
   | _=>none)
  | _,_=>none
 | .call { callee:=.builtin .copy,args,argTypes }=>match args.toList,argTypes.toList with
  | [s,x],[t,tx]=>(match P.underlying t with
   | some (.slice e)=>(match tsize P e,P.underlying tx with
    | some n,some (.slice _)=>some (.cpy false n,[s,x])
    | some n,some .string=>if n=1 then some (.cpy true n,[s,x])else none
    | _,_=>none)
   | _=>none)
  | _,_=>none
 | .mapEntry t m k=>match P.underlying t with
  | some (.map kt et)=>(match keyKind P kt,tzeroV P et with
   | some e,some z=>some (.ment e z,[m,k])
   | _,_=>none)
  | _=>none
 | .entryStore _ m s x=>some (.estore,[m,s,x])
 | _=>none
def compSlcf(P:Program)(own:Bool):Op→Option (AO×List Operand)
 | .slice t x lo hi mx=>if own then (match P.underlying t with
  | some (.slice e)=>(match tsize P e with
   | some n=>some (.slcf n lo.isSome hi.isSome mx.isSome,x::(lo.toList++hi.toList++mx.toList))
   | none=>none)
  | _=>none)else none
 | _=>none
def compOp(P:Program)(own:Bool)(o:Oper):Option (AO×List Operand):=
 match compCall o.op with
 | some r=>some r
 | none=>match compSlcf P own o.op with
  | some r=>some r
  | none=>match compB P own o.op with
   | some r=>some r
   | none=>match compEff P own o.type o.op with
    | some r=>some r
    | none=>match compMore P o.op with
     | some r=>some r
     | none=>compPure P o.op
def Comes1(P:Program)(R:Value→World→Prop):Result Next→Prop
 | .ok (.value u) w'=>R u w'
 | .ok .skip w'=>R undef w'
 | .ok (.enter f args) w'=>Calls P f args w' fun e w''=>∃ v,e=.returned v∧R v w''
 | .ok (.round l f tmps assign body) w'=>RoundIn Fence.wide 0 P l f tmps assign body w' fun e w''=>∃ v,e=.returned v∧R v w''
 | _=>False
theorem ofValue_func(f:FuncId)(args:Array Value)(caps:Array Value):Deferred.ofValue (.func (.func f) #[] caps) args=(pure { target:=.fn (.func f) caps,args:=args }:Sem Deferred):=by
 simp [Deferred.ofValue]
theorem enter_sound(hG:GamB P B G)(hi:Inv B C h w){f:FuncId}{args:List AV}{vals:Array Value}{r:AV}{h':Heap}(hr:RelL C args vals.toList)(he:callAV G f args h=some (r,h')) :
  Comes1 P (fun u w'=>∃ D,C.Le D∧Inv B D h' w'∧Rel D r u∧Keep B w w') ((callFunc f vals).run P w):=by
 have hen:Enters P f:=by
  cases hg:G f with
  | none=>simp [callAV,hg]at he
  | some c=>exact hG.enters f c hg
 rw [hen vals w]
 exact (call_sound hG hi hr he).mono fun e w' ⟨v,D,k1,k2⟩=>⟨v,k1,D,k2⟩
theorem run_eqGuard_sl(op:BinOp)(t:TypeId)(x y:Operand)(p q:Option Addr)(l c l2 c2:Nat)(w:World):(eqGuard op t x y (.slice p l c) (.slice q l2 c2)).run P w=.ok () w:=by
 cases op <;> simp [eqGuard]
theorem run_equalIn_nil{t e:TypeId}{p:Option Addr}{l c:Nat}(d:Nat)(ht:P.underlying t=some (.slice e)):(Op.equalIn (d+1) t (.slice p l c) (.slice none 0 0)).run P w=.ok (!p.isSome) w:=by
 rw [Op.equalIn]
 simp only [Sem.run_bind,run_underlying ht,Result.andThen_ok]
 cases p <;> rfl
theorem run_equalIn_nili{t:TypeId}{ms:_}{x:Value}(d:Nat)(ht:P.underlying t=some (.interface ms)){b:Bool}(hx:(x=.nilIface∧b=false)∨((∃ s v,x=.iface s v)∧b=true)):(Op.equalIn (d+1) t x .nilIface).run P w=.ok (!b) w:=by
 rw [Op.equalIn]
 simp only [Sem.run_bind,run_underlying ht,Result.andThen_ok]
 rcases hx with ⟨rfl,rfl⟩ | ⟨⟨s,v,rfl⟩,rfl⟩ <;> rfl
theorem thereI_sound{a:AV}{x:Value}{b:Bool}(hx:Rel C a x)(h:thereI a=some b):(x=.nilIface∧b=false)∨((∃ s v,x=.iface s v)∧b=true):=by
 cases a <;> first | (simp [thereI]at h; done) | skip
 case nili=>simp only [thereI,Option.some.injEq]at h; subst h; cases hx; exact .inl ⟨rfl,rfl⟩
 case iface t v=>simp only [thereI,Option.some.injEq]at h; subst h; cases hx; exact .inr ⟨⟨_,_,rfl⟩,rfl⟩
theorem run_equalIn_nilp{t e:TypeId}{x:Value}(d:Nat)(ht:P.underlying t=some (.pointer e)){b:Bool}(hx:(x=.pointer none∧b=false)∨((∃ a,x=.pointer (some a))∧b=true)):(Op.equalIn (d+1) t x (.pointer none)).run P w=.ok (!b) w:=by
 rw [Op.equalIn]
 simp only [Sem.run_bind,run_underlying ht,Result.andThen_ok]
 rcases hx with ⟨rfl,rfl⟩ | ⟨⟨a,rfl⟩,rfl⟩ <;> rfl
theorem thereP_sound{a:AV}{x:Value}{b:Bool}(hx:Rel C a x)(h:thereP a=some b):(x=.pointer none∧b=false)∨((∃ p,x=.pointer (some p))∧b=true):=by
 cases a <;> first | (simp [thereP]at h; done) | skip
 case nilp=>simp only [thereP,Option.some.injEq]at h; subst h; cases hx; exact .inl ⟨rfl,rfl⟩
 all_goals (simp only [thereP,Option.some.injEq]at h; subst h; cases hx; exact .inr ⟨⟨_,rfl⟩,rfl⟩)
theorem there_sound{a:AV}{x:Value}{b:Bool}(hx:Rel C a x)(h:there a=some b):∃ p l c,x=.slice p l c∧p.isSome=b:=by
 cases a <;> first | (simp [there]at h; done) | skip
 case nils=>simp only [there,Option.some.injEq]at h; subst h; cases hx; exact ⟨_,_,_,rfl,rfl⟩
 case sl rows=>
  cases rows with
  | nil=>simp [there]at h
  | cons r rs=>simp only [there,Option.some.injEq]at h; subst h; cases hx; exact ⟨_,_,_,rfl,rfl⟩
 case tsl rows=>
  cases rows with
  | nil=>simp [there]at h
  | cons r rs=>simp only [there,Option.some.injEq]at h; subst h; cases hx; exact ⟨_,_,_,rfl,rfl⟩
 case own l ver n=>
  cases n with
  | zero=>simp [there]at h
  | succ n=>simp only [there,Option.some.injEq]at h; subst h; cases hx; exact ⟨_,_,_,rfl,rfl⟩
theorem mapupA_op{ks:List EK}{t kt et:TypeId}{fs:Array Field}{m k x:Operand}{vals:List AV}{v:AV}{h':Heap}{ρ:Operand→Value}{S:Sem Next}(hS:S=(do Instr.mapUpdate t (ρ m) (ρ k) (ρ x); pure Next.skip))
  (hi:Inv B C h w) (ht:P.underlying t=some (.map kt et)) (hu:P.underlying kt=some (.struct fs)) (hk:flatEq P 100 kt=some ks) (hrel:RelL C vals ([m,k,x].map ρ)) (hev:evalAO G h (.mapupA ks) vals=some (v,h')) :
  Comes1 P (fun u w'=>∃ D,C.Le D∧Inv B D h' w'∧Rel D v u∧Keep B w w') (S.run P w):=by
 obtain ⟨vm,vk,vx,rfl,h1,h2,h3⟩:=three_vals hrel
 simp only [evalAO,AO.quiet,Bool.false_eq_true,if_false]at hev
 cases vm <;> first | (simp [evalEff]at hev; done) | skip
 cases vk <;> first | (simp [evalEff]at hev; done) | skip
 rename_i l as
 simp only [evalEff]at hev
 split at hev
 ·rename_i hc
  split at hev
  ·rename_i u h1' hf
   split at hev
   ·rename_i es hl
    simp only [Option.map_eq_some_iff,Prod.mk.injEq]at hev;obtain ⟨es',hp,rfl,rfl⟩:=hev;obtain ⟨D,w',k1,k2,k3,k4⟩:=mapupA_sound hi ht hu hk h1 h2 h3 hc.1 hc.2 hf hl hp;subst hS;have:Sem.run P (do Instr.mapUpdate t (ρ m) (ρ k) (ρ x); pure Next.skip) w=.ok .skip w':=by simp [k1]
    rw [this];exact ⟨D,k2,k3,.junk _,k4⟩
   ·cases hev
  ·cases hev
 ·cases hev
theorem more_sound(hi:Inv B C h w){oper:Oper}{ao:AO}{xs:List Operand}(hc:compMore P oper.op=some (ao,xs)){vals:List AV}{v:AV}{h':Heap}{ρ:Operand→Value}(hρ:∀ u,ρ (.const u)=u)
  (hrel:RelL C vals (xs.map ρ)) (hev:evalAO G h ao vals=some (v,h')) :
  Comes1 P (fun u w'=>∃ D,C.Le D∧Inv B D h' w'∧Rel D v u∧Keep B w w') ((execOp ρ oper).run P w):=by
 have ex:∀ o,oper.op=o→execOp ρ oper=execOp ρ { oper with op:=o }:=fun o e=>by rw [← e]
 unfold compMore at hc
 split at hc
 ·rename_i it hop
  simp only [Option.some.injEq,Prod.mk.injEq]at hc;obtain ⟨rfl,rfl⟩:=hc;obtain ⟨a,rfl,ha⟩:=one_val hrel;cases a <;> first | (simp [evalAO,AO.quiet,evalPure]at hev; done) | skip
  rename_i l off;cases off with
  | succ _=>simp [evalAO,AO.quiet,evalPure]at hev
  | zero=>
   simp only [evalAO,AO.quiet,if_true,evalPure]at hev;split at hev
   ·rename_i v0 hv
    simp only [Option.some.injEq,Prod.mk.injEq]at hev;obtain ⟨rfl,rfl⟩:=hev;obtain ⟨u,k1,k2⟩:=ent_run (P:=P) hi ha hv;rw [ex _ hop];have:(execOp ρ { oper with op:=.entry it }).run P w=.ok (.value u) w:=by
     have e9:∀ S:Sem Value,S.run P w=.ok u w→Sem.run P (do pure (Next.value (← S))) w=.ok (.value u) w:=fun S hS=>by simp [hS]
     exact e9 (Instr.entry (ρ it)) k1
    rw [this];exact ⟨C,.refl C,hi,k2,Keep.refl _ _⟩
   ·cases hev
 ·rename_i t x i ok hop
  split at hc
  ·rename_i kt et ht
   split at hc
   ·rename_i fs hu
    split at hc
    ·rename_i ks z hk hz
     simp only [Option.some.injEq,Prod.mk.injEq]at hc;obtain ⟨rfl,rfl⟩:=hc;obtain ⟨m,k,rfl,h1,h2⟩:=two_vals hrel;simp only [evalAO,AO.quiet,if_true]at hev;split at hev
     ·rename_i v0 hv
      simp only [Option.some.injEq,Prod.mk.injEq]at hev;obtain ⟨rfl,rfl⟩:=hev;obtain ⟨u,k1,k2⟩:=lookA_sound hi ht hu hk hz h1 h2 hv;rw [ex _ hop];have:(execOp ρ { oper with op:=.lookup t x i ok }).run P w=.ok (.value u) w:=by
       have e9:∀ S:Sem Value,S.run P w=.ok u w→Sem.run P (do pure (Next.value (← S))) w=.ok (.value u) w:=fun S hS=>by simp [hS]
       exact e9 (Instr.lookup t (ρ x) (ρ i) ok) k2
      rw [this];exact ⟨C,.refl C,hi,k1,Keep.refl _ _⟩
     ·cases hev
    ·cases hc
   ·cases hc
  ·cases hc
 ·rename_i t m k x hop
  split at hc
  ·rename_i kt et ht
   split at hc
   ·rename_i fs hu
    simp only [Option.map_eq_some_iff,Prod.mk.injEq]at hc;obtain ⟨ks,hk,rfl,rfl⟩:=hc;rw [ex _ hop];exact mapupA_op (ρ:=ρ) (S:=execOp ρ { oper with op:=.mapUpdate t m k x }) rfl hi ht hu hk hrel hev
   ·cases hc
  ·cases hc
 ·rename_i t m k x hop
  split at hc
  ·rename_i kt et ht
   split at hc
   ·rename_i fs hu
    simp only [Option.map_eq_some_iff,Prod.mk.injEq]at hc;obtain ⟨ks,hk,rfl,rfl⟩:=hc;rw [ex _ hop];exact mapupA_op (ρ:=ρ) (S:=execOp ρ { oper with op:=.insert t m k x }) rfl hi ht hu hk hrel hev
   ·cases hc
  ·cases hc
 ·rename_i op t x yt hop
  split at hc
  ·rename_i e ht
   have nn:∀ neg:Bool,(op=if neg then .neq else .eql)→ao=.isnil neg→xs=[x]→Comes1 P (fun u w'=>∃ D,C.Le D∧Inv B D h' w'∧Rel D v u∧Keep B w w') ((execOp ρ oper).run P w):=by
    rintro neg hop2 rfl rfl
    obtain ⟨a,rfl,ha⟩:=one_val hrel;simp only [evalAO,AO.quiet,if_true,evalPure]at hev;cases hb:there a with
    | none=>simp [hb]at hev
    | some b=>
     simp only [hb,Option.map_some,Option.some.injEq,Prod.mk.injEq]at hev;obtain ⟨rfl,rfl⟩:=hev;obtain ⟨p,l,c,hx,hp⟩:=there_sound ha hb;rw [ex _ hop];have:(execOp ρ { oper with op:=.binOp op t x (.const (.slice none 0 0)) yt }).run P w=.ok (.value (.bool (if neg then b else !b))) w:=by
      have e9:∀ S:Sem Value,S.run P w=.ok (.bool (if neg then b else !b)) w→Sem.run P (do pure (Next.value (← S))) w=.ok (.value (.bool (if neg then b else !b))) w:=fun S hS=>by simp [hS]
      refine e9 (do eqGuard op t x (.const (.slice none 0 0)) (ρ x) (ρ (.const (.slice none 0 0))); binOp op t (ρ x) (ρ (.const (.slice none 0 0))):Sem Value) ?_
      rw [hρ,hx];have hq:=run_equalIn_nil (P:=P) (w:=w) (p:=p) (l:=l) (c:=c) 9999 ht;rw [hp]at hq;subst hop2;cases neg <;> simp [run_eqGuard_sl,binOp,Op.equal,Op.maxDepth,hq]
     rw [this];exact ⟨C,.refl C,hi,.bool _,Keep.refl _ _⟩
   split at hc
   ·simp only [Option.some.injEq,Prod.mk.injEq]at hc
    exact nn false rfl hc.1.symm hc.2.symm
   ·simp only [Option.some.injEq,Prod.mk.injEq]at hc
    exact nn true rfl hc.1.symm hc.2.symm
   ·cases hc
  ·cases hc
 ·rename_i op t x yt hop
  split at hc
  ·rename_i e ht
   have nn:∀ neg:Bool,(op=if neg then .neq else .eql)→ao=.isnili neg→xs=[x]→Comes1 P (fun u w'=>∃ D,C.Le D∧Inv B D h' w'∧Rel D v u∧Keep B w w') ((execOp ρ oper).run P w):=by
    rintro neg hop2 rfl rfl
    obtain ⟨a,rfl,ha⟩:=one_val hrel;simp only [evalAO,AO.quiet,if_true,evalPure]at hev;cases hb:thereI a with
    | none=>simp [hb]at hev
    | some b=>
     simp only [hb,Option.map_some,Option.some.injEq,Prod.mk.injEq]at hev;obtain ⟨rfl,rfl⟩:=hev;have hx:=thereI_sound ha hb;rw [ex _ hop];have:(execOp ρ { oper with op:=.binOp op t x (.const .nilIface) yt }).run P w=.ok (.value (.bool (if neg then b else !b))) w:=by
      have e9:∀ S:Sem Value,S.run P w=.ok (.bool (if neg then b else !b)) w→Sem.run P (do pure (Next.value (← S))) w=.ok (.value (.bool (if neg then b else !b))) w:=fun S hS=>by simp [hS]
      refine e9 (do eqGuard op t x (.const .nilIface) (ρ x) (ρ (.const .nilIface)); binOp op t (ρ x) (ρ (.const .nilIface)):Sem Value) ?_
      rw [hρ];have hq:=run_equalIn_nili (P:=P) (w:=w) 9999 ht hx;subst hop2;rcases hx with ⟨hx,rfl⟩ | ⟨⟨s,u,hx⟩,rfl⟩ <;> rw [hx]at hq ⊢ <;> cases neg <;> simp [eqGuard,binOp,Op.equal,Op.maxDepth,hq]
     rw [this];exact ⟨C,.refl C,hi,.bool _,Keep.refl _ _⟩
   split at hc
   ·simp only [Option.some.injEq,Prod.mk.injEq]at hc
    exact nn false rfl hc.1.symm hc.2.symm
   ·simp only [Option.some.injEq,Prod.mk.injEq]at hc
    exact nn true rfl hc.1.symm hc.2.symm
   ·cases hc
  ·cases hc
 ·rename_i op t x yt hop
  split at hc
  ·rename_i e ht
   have nn:∀ neg:Bool,(op=if neg then .neq else .eql)→ao=.isnilp neg→xs=[x]→Comes1 P (fun u w'=>∃ D,C.Le D∧Inv B D h' w'∧Rel D v u∧Keep B w w') ((execOp ρ oper).run P w):=by
    rintro neg hop2 rfl rfl
    obtain ⟨a,rfl,ha⟩:=one_val hrel;simp only [evalAO,AO.quiet,if_true,evalPure]at hev;cases hb:thereP a with
    | none=>simp [hb]at hev
    | some b=>
     simp only [hb,Option.map_some,Option.some.injEq,Prod.mk.injEq]at hev;obtain ⟨rfl,rfl⟩:=hev;have hx:=thereP_sound ha hb;rw [ex _ hop];have:(execOp ρ { oper with op:=.binOp op t x (.const (.pointer none)) yt }).run P w=.ok (.value (.bool (if neg then b else !b))) w:=by
      have e9:∀ S:Sem Value,S.run P w=.ok (.bool (if neg then b else !b)) w→Sem.run P (do pure (Next.value (← S))) w=.ok (.value (.bool (if neg then b else !b))) w:=fun S hS=>by simp [hS]
      refine e9 (do eqGuard op t x (.const (.pointer none)) (ρ x) (ρ (.const (.pointer none))); binOp op t (ρ x) (ρ (.const (.pointer none))):Sem Value) ?_
      rw [hρ];have hq:=run_equalIn_nilp (P:=P) (w:=w) 9999 ht hx;subst hop2;rcases hx with ⟨hx,rfl⟩ | ⟨⟨u,hx⟩,rfl⟩ <;> rw [hx]at hq ⊢ <;> cases neg <;> simp [eqGuard,binOp,Op.equal,Op.maxDepth,hq]
     rw [this];exact ⟨C,.refl C,hi,.bool _,Keep.refl _ _⟩
   split at hc
   ·simp only [Option.some.injEq,Prod.mk.injEq]at hc
    exact nn false rfl hc.1.symm hc.2.symm
   ·simp only [Option.some.injEq,Prod.mk.injEq]at hc
    exact nn true rfl hc.1.symm hc.2.symm
   ·cases hc
  ·cases hc
 ·rename_i s d x hop
  split at hc
  ·rename_i e hs hd
   split at hc
   ·rename_i he
    simp only [Option.some.injEq,Prod.mk.injEq]at hc; obtain ⟨rfl,rfl⟩:=hc;obtain ⟨a,rfl,ha⟩:=one_val hrel;simp only [evalAO,AO.quiet,if_true,evalPure]at hev;cases hr:rowsOf h a with
    | none=>simp [hr]at hev
    | some rows=>
     cases hb:bytesOfRows rows with
     | none=>simp [hr,hb]at hev
     | some bs=>
      simp only [hr,hb,Option.map_some,Option.some.injEq,Prod.mk.injEq]at hev;obtain ⟨rfl,rfl⟩:=hev;have:=b2s_sound hi hs he hd ha hr hb;rw [ex _ hop];simp only [execOp,Sem.run_bind,this,Result.andThen_ok];exact ⟨C,.refl C,hi,.str _,Keep.refl _ _⟩
   ·cases hc
  ·rename_i e hs hd
   split at hc
   ·rename_i he
    simp only [Option.some.injEq,Prod.mk.injEq]at hc; obtain ⟨rfl,rfl⟩:=hc;obtain ⟨a,rfl,ha⟩:=one_val hrel;cases a with
    | str s=>
     simp only [evalAO,AO.quiet,Bool.false_eq_true,if_false,evalEff]at hev;split at hev
     ·rename_i hb
      injection hev with hev; injection hev with e1 e2; subst e1 e2
      have hx:=str_inv ha;obtain ⟨u,D,w',k1,k2,k3,k4,k5⟩:=s2b_sound (P:=P) hi hs hd he hb;rw [ex _ hop];simp only [execOp,Sem.run_bind,hx,k1,Result.andThen_ok];exact ⟨D,k2,k3,k4,k5⟩
     ·cases hev
    | _=>simp [evalAO,AO.quiet,evalEff]at hev
   ·cases hc
  ·cases hc
 ·rename_i args argTypes hop
  split at hc
  ·rename_i s x t tx hargs htys
   have eargs:args=#[s,x]:=by rw [← Array.toList_inj]; simpa using hargs
   have etys:argTypes=#[t,tx]:=by rw [← Array.toList_inj]; simpa using htys
   subst eargs etys;have cp:∀ {str:Bool} {n:Nat} {e:TypeId},P.underlying t=some (.slice e)→tsize P e=some n→(str=true→P.underlying tx=some .string∧n=1)→(str=false→∃ e,P.underlying tx=some (.slice e))→
     RelL C vals ([s,x].map ρ)→evalAO G h (.cpy str n) vals=some (v,h')→Comes1 P (fun u w'=>∃ D,C.Le D∧Inv B D h' w'∧Rel D v u∧Keep B w w') ((execOp ρ oper).run P w):=by
    intro str n e ht hn k1 k2 hrel hev;obtain ⟨a,b,rfl,h1,h2⟩:=two_vals hrel;simp only [evalAO,AO.quiet,Bool.false_eq_true,if_false]at hev;cases a <;> first | (simp [evalEff]at hev; done) | skip
    rename_i l ver m;obtain ⟨u,D,w',g1,g2,g3,g4,g5⟩:=cpy_sound (ty:=oper.type) hi ht hn h1 h2 k1 k2 hev;rw [ex _ hop];have em:#[s,x].map ρ=#[ρ s,ρ x]:=by simp
    rw [← em]at g1;have:(execOp ρ { oper with op:=.call { callee:=.builtin .copy,args:=#[s,x],argTypes:=#[t,tx] } }).run P w=.ok (.value u) w':=by
     have e:∀ (S:Sem Value),S.run P w=.ok u w'→Sem.run P (do pure (Next.value (← S))) w=.ok (.value u) w':=fun S hS=>by simp [hS]
     exact e _ g1
    rw [this];exact ⟨D,g2,g3,g4,g5⟩
   split at hc
   ·rename_i e ht
    split at hc
    ·rename_i n e2 hn htx
     simp only [Option.some.injEq,Prod.mk.injEq]at hc; obtain ⟨rfl,rfl⟩:=hc;exact cp ht hn (fun e=>by cases e) (fun _=>⟨e2,htx⟩) hrel hev
    ·rename_i n hn htx
     split at hc
     ·rename_i h1
      simp only [Option.some.injEq,Prod.mk.injEq]at hc; obtain ⟨rfl,rfl⟩:=hc;exact cp ht hn (fun _=>⟨htx,h1⟩) (fun e=>by cases e) hrel hev
     ·cases hc
    ·cases hc
   ·cases hc
  ·cases hc
 ·rename_i t m k hop
  split at hc
  ·rename_i kt et ht
   split at hc
   ·rename_i e z hk hz
    simp only [Option.some.injEq,Prod.mk.injEq]at hc; obtain ⟨rfl,rfl⟩:=hc;obtain ⟨a,b,rfl,h1,h2⟩:=two_vals hrel;simp only [evalAO,AO.quiet,Bool.false_eq_true,if_false]at hev;cases a <;> first | (simp [evalEff]at hev; done) | skip
    rename_i l;simp only [evalEff]at hev;split at hev
    ·rename_i hkey
     split at hev
     ·rename_i es hl
      split at hev
      ·rename_i hg
       simp only [Option.some.injEq,Prod.mk.injEq]at hev; obtain ⟨rfl,rfl⟩:=hev;obtain ⟨u,w',g1,g2,g3,g4⟩:=ment_sound (P:=P) hi ht hk hz h1 h2 hkey hl hg;rw [ex _ hop];have:(execOp ρ { oper with op:=.mapEntry t m k }).run P w=.ok (.value u) w':=by
        have e:∀ (S:Sem Value),S.run P w=.ok u w'→Sem.run P (do pure (Next.value (← S))) w=.ok (.value u) w':=fun S hS=>by simp [hS]
        exact e _ g1
       rw [this];exact ⟨C,.refl C,g2,g3,g4⟩
      ·cases hev
     ·cases hev
    ·cases hev
   ·cases hc
  ·cases hc
 ·rename_i t m s x hop
  simp only [Option.some.injEq,Prod.mk.injEq]at hc; obtain ⟨rfl,rfl⟩:=hc;obtain ⟨a,b,c,rfl,h1,h2,h3⟩:=three_vals hrel;simp only [evalAO,AO.quiet,Bool.false_eq_true,if_false]at hev;cases a <;> first | (simp [evalEff]at hev; done) | skip
  rename_i l;cases b <;> first | (simp [evalEff]at hev; done) | skip
  rename_i kd i;cases kd <;> first | (simp [evalEff]at hev; done) | skip
  simp only [evalEff]at hev;split at hev
  ·rename_i h0
   split at hev
   ·rename_i u h1' hf
    split at hev
    ·rename_i es hl
     simp only [Option.map_eq_some_iff,Prod.mk.injEq]at hev;obtain ⟨⟨kk,ov⟩,he,rfl,rfl⟩:=hev;obtain ⟨n,rfl⟩:∃ n:Nat,i=n:=⟨i.toNat,by omega⟩
     obtain ⟨D,w',g1,g2,g3,g4⟩:=estore_sound (P:=P) (t:=t) hi h1 h2 h3 hf hl he;rw [ex _ hop];have:(execOp ρ { oper with op:=.entryStore t m s x }).run P w=.ok .skip w':=by
      have e:∀ (S:Sem Unit),S.run P w=.ok () w'→Sem.run P (do S; pure Next.skip) w=.ok .skip w':=fun S hS=>by simp [hS]
      exact e _ g1
     rw [this];exact ⟨D,g2,g3,.junk _,g4⟩
    ·cases hev
   ·cases hev
  ·cases hev
 ·cases hc
theorem op_sound(hG:GamB P B G)(hi:Inv B C h w){own:Bool}{oper:Oper}{ao:AO}{xs:List Operand}(hc:compOp P own oper=some (ao,xs)){vals:List AV}{v:AV}{h':Heap}{ρ:Operand→Value}
  (hρ:∀ u,ρ (.const u)=u) (hρf:∀ f,ρ (.func f)=.func (.func f) #[] #[]) (hrel:RelL C vals (xs.map ρ)) (hev:evalAO G h ao vals=some (v,h')) :
  Comes1 P (fun u w'=>∃ D,C.Le D∧Inv B D h' w'∧Rel D v u∧Keep B w w') ((execOp ρ oper).run P w):=by
 unfold compOp at hc
 split at hc
 ·
  rename_i r hcall;injection hc with hc; subst hc
  have ex:∀ o,oper.op=o→execOp ρ oper=execOp ρ { oper with op:=o }:=fun o e=>by rw [← e]
  unfold compCall at hcall;split at hcall
  ·rename_i f args _ hop
   simp only [Option.some.injEq,Prod.mk.injEq]at hcall; obtain ⟨rfl,rfl⟩:=hcall;simp only [evalAO,AO.quiet,Bool.false_eq_true,if_false,evalEff]at hev;have hrel':RelL C vals (args.map ρ).toList:=by simpa using hrel
   have:=enter_sound hG hi hrel' hev;rw [ex _ hop];simpa [execOp,resolve,hρf,ofValue_func,invoke] using this
  ·rename_i x args _ hnf hop
   simp only [Option.some.injEq,Prod.mk.injEq]at hcall; obtain ⟨rfl,rfl⟩:=hcall;simp only [evalAO,AO.quiet,Bool.false_eq_true,if_false]at hev;cases vals with
   | nil=>simp [evalEff]at hev
   | cons a as=>
    obtain ⟨u,us,e,r1,r2⟩:=hrel.inv_cons;simp only [List.map_cons,List.cons.injEq]at e;obtain ⟨rfl,rfl⟩:=e;cases a <;> first | (simp [evalEff]at hev; done) | skip
    case yld k=>
     simp only [evalEff]at hev;generalize hy:ρ x=y at r1;cases r1 with
     | yld _ b hb=>
      obtain ⟨fn,tmps,as',bd,q1,q2⟩:=hG.y B (.refl B) k as h v h' hev C w b (args.map ρ) hb hi (by simpa using r2);rw [ex _ hop];have e2:(execOp ρ { oper with op:=.call { callee:=.value x,args:=args,argTypes:=‹_› } }).run P w=.ok (.round b fn tmps as' bd) w:=by
       simpa [execOp,resolve,hy,Deferred.ofValue,invoke] using q1
      rw [e2];refine RoundIn.mono q2 fun e w' hk=>?_
      obtain ⟨u,D,k1,k2⟩:=hk;exact ⟨u,k1,D,k2⟩
    case mth f v0=>
     simp only [evalEff]at hev;generalize hy:ρ x=y at r1;cases r1 with
     | mth _ _ y0 h0=>
      have hrel':RelL C (v0::as) (#[y0]++args.map ρ).toList:=by
       rw [Array.toList_append];exact RelL.cons h0 (by simpa using r2)
      have:=enter_sound hG hi hrel' hev;rw [ex _ hop];simpa [execOp,resolve,hy,Deferred.ofValue,invoke] using this
    rename_i f caps;simp only [evalEff]at hev;generalize hy:ρ x=y at r1;cases r1 with
    | fn _ _ cs hl hcs=>
     have hrel':RelL C (as++caps) (args.map ρ++cs).toList:=by
      rw [Array.toList_append];exact RelL.append (by simpa using r2) ⟨by simpa using hl,fun i c v hc hv=>hcs i c v hc (by simpa using hv)⟩
     have:=enter_sound hG hi hrel' hev;rw [ex _ hop];simpa [execOp,resolve,hy,ofValue_func,invoke] using this
  ·cases hcall
 ·rename_i hnc
  split at hc
  ·rename_i r hsf
   injection hc with hc; subst hc
   have ex:∀ o,oper.op=o→execOp ρ oper=execOp ρ { oper with op:=o }:=fun o e=>by rw [← e]
   unfold compSlcf at hsf;split at hsf
   ·rename_i t x lo hi2 mx hop
    split at hsf
    ·split at hsf
     ·rename_i e ht
      split at hsf
      ·rename_i n hn
       simp only [Option.some.injEq,Prod.mk.injEq]at hsf; obtain ⟨rfl,rfl⟩:=hsf;simp only [evalAO,AO.quiet,Bool.false_eq_true,if_false]at hev;cases vals with
       | nil=>simp [RelL]at hrel
       | cons a as=>
        obtain ⟨y,us,e,r1,r2⟩:=hrel.inv_cons;injection e with e1 e2; subst e1 e2
        simp only [evalEff]at hev;split at hev
        ·rename_i l r m hargs
         obtain ⟨l',r',m',a1,a2,a3,rfl,rfl,rfl⟩:=slcArgs_inv r2 hargs;obtain ⟨u,D,k1,k2,k3,k4⟩:=slcf_sound hi ht hn r1 l' r' m' hev;rw [ex _ hop];have e9:∀ (S:Sem Value),S.run P w=.ok u w→Sem.run P (do pure (Next.value (← S))) w=.ok (.value u) w:=fun S hS=>by simp [hS]
         have:(execOp ρ { oper with op:=.slice t x lo hi2 mx }).run P w=.ok (.value u) w:=by
          refine e9 (Instr.sliceAt t (ρ x) (lo.map ρ) (hi2.map ρ) (mx.map ρ)) ?_
          rw [a1,a2,a3]; exact k1
         rw [this];exact ⟨D,k2,k3,k4,Keep.refl _ _⟩
        ·cases hev
      ·cases hsf
     ·cases hsf
    ·cases hsf
   ·cases hsf
  split at hc
  ·rename_i r hcb
   injection hc with hc; subst hc
   obtain ⟨n,u,D,w',k1,k2,k3⟩:=B_sound (G:=G) hi hcb rfl hrel hev;rw [k1];rcases k2 with rfl | ⟨rfl,rfl⟩
   ·exact ⟨D,k3⟩
   ·exact ⟨D,k3⟩
  split at hc
  ·rename_i r hce
   injection hc with hc; subst hc
   have hq:ao.quiet=false:=by
    unfold compEff at hce;split at hce <;> (try split at hce) <;> (try split at hce) <;> (try split at hce) <;> (try split at hce) <;> (first | (cases hce; done) | (cases hce; rfl))
   simp only [evalAO,hq,Bool.false_eq_true,if_false]at hev;obtain ⟨n,u,D,w',k1,k2,k3⟩:=eff_sound hi hce vals v h' ρ oper hρ rfl rfl hrel hev;rw [k1];rcases k2 with rfl | ⟨rfl,rfl⟩
   ·exact ⟨D,k3⟩
   ·exact ⟨D,k3⟩
  ·split at hc
   ·rename_i r hmo
    injection hc with hc; subst hc
    exact more_sound hi hmo hρ hrel hev
   have hq:ao.quiet=true:=by
    unfold compPure at hc;split at hc <;> (try split at hc) <;> (try split at hc) <;> (try split at hc) <;> (try split at hc) <;> (try split at hc) <;> (try split at hc) <;> (try split at hc) <;> (first | (cases hc; done) | (cases hc; rfl))
   simp only [evalAO,hq,if_true]at hev;split at hev
   ·rename_i v' hv'
    simp only [Option.some.injEq,Prod.mk.injEq]at hev; obtain ⟨rfl,rfl⟩:=hev;obtain ⟨u,k1,k2⟩:=pure_sound hi hc vals v' ρ oper rfl hrel hv';rw [k2 w (Below.refl _ _)];exact ⟨C,.refl C,hi,k1,Keep.refl _ _⟩
   ·cases hev
end
end Go.Proofs.YtpefhfiehfkocaaGreatDoor
