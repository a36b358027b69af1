import Derived.Test.YtainhmbnbgonhaaGreatDoorM5
import Derived.Test.YtainhmbnbgonhaaGreatDoorM8
set_option linter.unusedSimpArgs false
set_option linter.unnecessarySimpa false
namespace GP
open Go Go.Proofs
set_option maxRecDepth 100000
theorem vals_isV {out : List D} (h : ∀ v ∈ out,val4 v) : ∀ v ∈ out,v.isV = true:=fun v hv=>(val4_isV (h v hv)).1
theorem vals_erase {out : List D} (h : ∀ v ∈ out,val4 v) : D.eraseL out = out:=eraseL_id fun v hv=>(val4_isV (h v hv)).2.1
theorem vals_fit {out : List D} (h : ∀ v ∈ out,val4 v) : out.all (fit 4) = true:=List.all_eq_true.2 fun v hv=>(val4_isV (h v hv)).2.2.2
set_option maxHeartbeats 4000000 in
theorem ok241 (f : Nat) (hf : f <= 10000) : OkAtE Tryz.prog 241 (φC (gBag f)):=by
 have hM : MonoH []:=.nil
 refine okC_of (l:=[(246,φBag)]) (m:=[]) (ee:=[(69,φC gMay),(245,φC gItem),(71,φC gMust),(105,φC gFail)]) (.cons ok246 .nil) .nil (.cons ok69 (.cons ok245 (.cons ok71 (.cons ok105 .nil)))) fn241 fun H p n xs a e rest r a' e' hp htk hlen h=>?_
 unfold gBag at h
 split at h
 ·rename_i m
  split at h
  ·rename_i hm
   obtain ⟨fr,rfl⟩ : ∃ k : Nat,m = (k : Int):=⟨m.toNat,by omega⟩
   rw [Int.toNat_natCast] at h
   have qa:=φQ_at (n:=n) hp htk hlen;have qa0:=φQ_at0 (n:=n) hp htk hlen;have ca:=φC_at (n:=n) hp htk hlen;have ca0:=φC_at0 (n:=n) hp htk hlen;have rc:=rd_cu hp;have rc0:=rd_cu0 hp;have sc:=fun K : D -> S -> Prop=>st_cu (K:=K) hp;have sc0:=fun K : D -> S -> Prop=>st_cu0 (K:=K) hp
   obtain ⟨v0,⟨a0,e0⟩,hv0⟩ : ∃ v0 st,itemP xs (a,e) = (v0,st):=⟨_,_,rfl⟩
   have hval0 : val4 v0:=by have:=item_val htk (a,e);rw [hv0] at this;exact this
   have hi0 : gItem [] xs a e = some (v0,a0,e0):=by simp only [gItem,hv0]
   unfold bagP at h
   rw [hv0] at h
   simp only at h
   obtain ⟨z,hz⟩ : ∃ z,bagL xs f [v0] (a0,e0) = z:=⟨_,rfl⟩
   rw [hz] at h
   cases z with
   | none=>cases h
   | some z =>
   obtain ⟨out,a1,e1⟩:=z
   simp only at h
   have hvals:=(bagL_val htk f [v0] (a0,e0) (out,(a1,e1)) (fun v hv=>by rw [List.mem_singleton] at hv;subst hv;exact hval0) hz)
   have hcount:=bagL_len f [v0] (a0,e0) (out,(a1,e1)) hz
   simp only [List.length_singleton] at hvals hcount
   obtain ⟨⟨a2,e2⟩,hmu⟩ : ∃ st,mustP xs [93] (a1,e1) = st:=⟨_,rfl⟩
   rw [hmu] at h
   have hg2 : gMust [.str [93]] xs a1 e1 = some (.tup [],a2,e2):=by simp only [gMust,hmu]
   have hcl:=(bagV_cl hvals.1)
   have hrcl : r.cl 0 0 = true:=by
    split at h
    ·injection h with h;injection h with h1 h2;subst h1;rfl
    ·injection h with h;injection h with h1 h2;subst h1
     obtain ⟨k,i,s,nn,ys,hsh,_⟩:=bagV_shape out
     rw [hsh] at hcl ⊢
     have h3:=hcl.1
     simp only [D.cl,D.clL,Bool.and_true,Bool.true_and] at h3
     simp [valE,D.cells,D.cl,D.clL,h3]
   refine ⟨by simp,hrcl,fun T=>?_⟩
   simp +contextual (maxSteps:=10000000) only [qa,qa0,ca,ca0,rc,rc0,sc,sc0,c241,hi0,pcallE hM,go_sem]
   refine ⟨(val4_isV hval0).2.2.2,?_⟩
   refine W_for (fun i s'=>∃ (o : List D) (b : Nat) (eb : Int),s'.t 0 = .ptr p 0 /\ s'.t 1 = .int .i64 (fr : Nat) /\ s'.t 4 = .ptr H.length 0 /\ accW 4 T o (s'.t 5) s'.T ∧
     s'.H = H.set p (.row [sliceD n xs,.int .i64 ((b : Nat) : Int),.int .i64 eb]) ++ [.row [.str [],.int .i64 0,.int .i64 0,.str [],.nils,.str [],.str [],.nils]] ∧
     bagL xs (f - i) o (b,eb) = some (out,(a1,e1)) /\ i <= f /\ (∀ v ∈ o,val4 v) /\ o.length <= i + 1) f
    ⟨0,[v0],a0,e0,by simp [upd,argT],by simp [upd,argT],by simp [upd],.inr ⟨by simp,[some (1,4)],0,rfl,by simp [upd],rfl⟩,rfl,hz,by omega,(fun v hv=>by rw [List.mem_singleton] at hv;subst hv;exact hval0),by simp⟩
    (fun i s h=>by obtain ⟨_,_,_,h⟩:=h;exact h.2.2.2.2.2.2.1) ?_ (XE_mono _ _ _)
   rintro i ⟨t,B,T'⟩ ⟨o,b,eb,r0,r1,r4,hA,rfl,hz2,hi,hv,hol⟩
   simp only at r0 r1 r4 hA
   obtain ⟨k,hk⟩ : ∃ k,f - i = k:=⟨_,rfl⟩
   rw [hk] at hz2
   cases k with
   | zero=>simp [bagL] at hz2
   | succ k =>
   simp only [bagL] at hz2
   rcases tf (isP xs (b,eb) [44]) with g | g
   ·rw [if_pos g] at hz2
    obtain ⟨v1,⟨b1,eb1⟩,hv1⟩ : ∃ v1 st,itemP xs (b + 1,eb) = (v1,st):=⟨_,_,rfl⟩
    have hval1 : val4 v1:=by have:=item_val htk (b + 1,eb);rw [hv1] at this;exact this
    have hi1 : gItem [] xs (b + 1) eb = some (v1,b1,eb1):=by simp only [gItem,hv1]
    rw [hv1] at hz2
    have er1:=(val4_isV hval1).2.1
    have fit1:=(val4_isV hval1).2.2.2
    simp +contextual (maxSteps:=10000000) only [qa,qa0,ca,ca0,rc,rc0,sc,sc0,r0,r1,r4,gMay,g,hi1,er1,go_sem]
    refine ⟨fit1,app_accW v1 hA fit1 (vals_fit hv) (by omega) (by omega) fun d2 T2 hA2=>?_⟩
    have ek : f - (i + 1) = k:=by omega
    simp +contextual (maxSteps:=10000000) only [r0,r1,r4,go_sem]
    exact ⟨o ++ [v1],b1,eb1,hA2,rfl,by rw [ek];exact hz2,by omega,(fun v hv'=>by
     rcases List.mem_append.1 hv' with hv' | hv'
     ·exact hv v hv'
     ·rw [List.mem_singleton] at hv';subst hv';exact hval1),by simp;omega⟩
   ·rw [if_neg (by rw [g];decide)] at hz2
    injection hz2 with hz2;injection hz2 with hz3 hz4;injection hz4 with hz4 hz5
    subst hz3;subst hz4;subst hz5
    have hne : o ≠ []:=by
     rintro rfl
     have:=hvals.2
     simp at this
    have hde:=accW_erase hA (vals_erase hvals.1)
    have hsl : sliceD true o = .sl none o:=by
     rcases sliceD_cases true o with ⟨_,e1⟩ | e1
     ·exact absurd e1 hne
     ·exact e1
    rw [hsl] at hde
    have pb : φBag [.sl none o] = some (.tup [(bagV o).1,.int .i64 (bagV o).2]):=by
     simp only [φBag]
     rw [if_pos ⟨rfl,isVs_iff.2 (vals_isV hvals.1),by show o.length <= 2 ^ 40;omega,by
      show (false || !o.isEmpty) = true
      cases o with
      | nil=>exact absurd rfl hne
      | cons=>rfl⟩]
     rfl
    rcases tf (e2 != 0) with g2 | g2
    ·rw [if_pos g2] at h
     injection h with h;injection h with h1 h2;injection h2 with h2 h3
     subst h1;subst h2;subst h3
     simp +contextual (maxSteps:=10000000) only [qa,qa0,ca,ca0,rc,rc0,sc,sc0,r0,r1,r4,gMay,g,hg2,g2,go_sem]
     exact leavesE_mk rfl ⟨_,rfl⟩ (accW_ext hA)
    ·rw [if_neg (by rw [g2];decide)] at h
     injection h with h;injection h with h1 h2
     subst h1
     obtain ⟨k,ii,s,nn,ys,hsh,_⟩:=bagV_shape o
     rw [hsh] at pb hcl ⊢
     have her : (valE (.agg [.int .i64 k,.int .i64 ii,.str s,sliceD nn ys])).erase = valE (.agg [.int .i64 k,.int .i64 ii,.str s,sliceD nn ys]):=by
      have h3:=hcl.2
      simp only [D.erase,D.eraseL,D.agg.injEq,List.cons.injEq,true_and,and_true] at h3
      simp [valE,D.cells,D.erase,D.eraseL,h3]
     obtain ⟨be,hbe⟩ : ∃ be,(bagV o).2 = be:=⟨_,rfl⟩
     rw [hbe] at pb h2
     rcases tf (be != 0) with g3 | g3
     ·rw [if_pos g3] at h2
      obtain ⟨y1,y2,hy⟩ : ∃ y1 y2,failP fr 2 (a2,e2) = (y1,y2):=⟨_,_,rfl⟩
      have hf2:=gFail_of fr 2 xs a2 e2
      rw [hy] at hf2 h2
      injection h2 with h2 h3
      subst h2;subst h3
      simp +contextual (maxSteps:=10000000) only [qa,qa0,ca,ca0,rc,rc0,sc,sc0,r0,r1,r4,gMay,g,hg2,g2,hde,pb,g3,hf2,pcallE hM,go_sem]
      exact leavesE_mk her ⟨_,rfl⟩ (accW_ext hA)
     ·rw [if_neg (by rw [g3];decide)] at h2
      injection h2 with h2 h3
      subst h2;subst h3
      simp +contextual (maxSteps:=10000000) only [qa,qa0,ca,ca0,rc,rc0,sc,sc0,r0,r1,r4,gMay,g,hg2,g2,hde,pb,g3,pcallE hM,go_sem]
      exact leavesE_mk her ⟨_,rfl⟩ (accW_ext hA)
  ·cases h
 ·cases h
end GP
namespace GP
open Go Go.Proofs
set_option maxRecDepth 100000
def ex8 (x : D) : Prop:=(∃ c0 c1 c2 c3 c4 c5 c6 c7,x = .agg [c0,c1,c2,c3,c4,c5,c6,c7]) /\ x.erase = x /\ x.cl 0 0 = true
def twoD (op : List UInt8) (x y : D) : D:=.agg [.str op,.int .i64 0,.int .i64 0,.str [],.nils,.str [],.str [],.sl none [x,y]]
theorem two_ex8 {op : List UInt8} {x y : D} (hx : ex8 x) (hy : ex8 y) : ex8 (twoD op x y):=by
 refine ⟨⟨_,_,_,_,_,_,_,_,rfl⟩,?_,?_⟩
 ·simp [twoD,D.erase,D.eraseL,hx.2.1,hy.2.1]
 ·simp [twoD,D.cl,D.clL,hx.2.2,hy.2.2]
open Classical in
noncomputable def φtwoE : List D -> Option D
 | [.str op,x,y]=>if ex8 x /\ ex8 y then some (twoD op x y) else none
 | _=>none
theorem ok169 : OkAt Tryz.prog 169 φtwoE:=by
 refine ok_of (l:=[]) .nil fn169 fun args r h=>?_
 unfold φtwoE at h
 split at h
 ·rename_i op x y
  split at h
  ·rename_i hc
   obtain ⟨hx,hy⟩:=hc
   injection h with h;subst h
   have h2:=two_ex8 (op:=op) hx hy
   refine ⟨by simp,h2.2.2,fun H T=>?_⟩
   have ex:=hx.2.1
   have ey:=hy.2.1
   obtain ⟨⟨a0,a1,a2,a3,a4,a5,a6,a7,rfl⟩,_,_⟩:=hx
   obtain ⟨⟨b0,b1,b2,b3,b4,b5,b6,b7,rfl⟩,_,_⟩:=hy
   simp +contextual (maxSteps:=10000000) only [c169,go_sem]
   simp only [D.erase,D.eraseL] at ex ey
   rw [ex,ey];rfl
  ·cases h
 ·cases h
def φP (g : Nat -> GE) (H : Hp) : List D -> Option (D × Hp)
 | .ptr p 0 :: rest=>cuE H p (g p rest)
 | _=>none
theorem φP_at {H : Hp} {p : Nat} {n : Bool} {xs : List D} (hp : p < H.length) (htk : xs.all tokB = true) (hl : xs.length <= 600) (g : Nat -> GE) (rest : List D) (a : Nat) (e : Int) (L : Hp) : φP g (H.set p (.row [sliceD n xs,.int .i64 ((a : Nat) : Int),.int .i64 e]) ++ L) (.ptr p 0 :: rest) = cuR H p (sliceD n xs) L (g p rest xs a e) :=
 φC_at hp htk hl (g p) rest a e L
theorem okP_of {l : Fs} {m : FsH} {ee : FsE} (hl : Ok Tryz.prog l) (hm : OkH Tryz.prog m) (hE : OkE Tryz.prog ee) {f : FuncId} {k : Nat} {rs : List (Sum Nat (Nat × Bool × Nat))} {cc : C} (hf : Fn Tryz.prog f k rs cc) {g : Nat -> GE}
  (h : ∀ (H : Hp) (p : Nat) (n : Bool) (xs : List D) (a : Nat) (e : Int) (rest : List D) (r : D) (a' : Nat) (e' : Int),p < H.length -> xs.all tokB = true -> xs.length <= 600 -> g p rest xs a e = some (r,a',e') -> rest.length + 1 <= k /\ r.cl 0 0 = true ∧
   ∀ T,W (XE l m ee) cc (endQ rs (LeavesE r (H.set p (.row [sliceD n xs,.int .i64 ((a' : Nat) : Int),.int .i64 e'])) T)) ⟨argT (.ptr p 0 :: rest),H.set p (.row [sliceD n xs,.int .i64 ((a : Nat) : Int),.int .i64 e]),T⟩) : OkAtE Tryz.prog f (φP g):=by
 refine okE_of hl hm hE hf fun H args r H1 hr=>?_
 unfold φP at hr
 split at hr
 ·rename_i p rest
  obtain ⟨n,xs,a,e,r',a',e',h1,h2,h3,h4,h5,h6⟩:=cuE_elim hr
  injection h6 with h6 h7
  subst h6;subst h7
  obtain ⟨k1,k2,k3⟩:=h H p n xs a e rest r a' e' h2 h3 h4 h5
  refine ⟨by simpa using k1,D.cl_mono (Nat.zero_le _) (Nat.le_refl _) r k2,⟨by simp,fun o x cs hx hc=>?_⟩,fun T=>?_⟩
  ·by_cases ho : o = p
   ·subst ho
    rw [List.getElem?_set_self h2] at hx
    injection hx with hx;subst hx
    injection hc with hc;subst hc
    refine .inr ?_
    simp only [D.clL,toksB_cl h3,D.cl,Bool.and_self]
   ·rw [List.getElem?_set_ne (fun e=>ho e.symm)] at hx
    exact .inl hx
  ·have:=k3 T
   rw [set_same h1] at this
   exact this
 ·cases hr
abbrev Part:=List D -> St -> Option (D × St)
def gOf (P : Part) : GE:=fun rest toks a e=>match rest with
 | []=>P toks (a,e)
 | _=>none
def exPart (P : Part) : Prop:=∀ toks st r,toks.all tokB = true -> P toks st = some r -> ex8 r.1
def rowL (toks : List D) (P : Part) (bs : List (List UInt8)) : Nat -> D -> St -> Option (D × St)
 | 0,_,_=>none
 | f + 1,x,st=>if st.2 != 0 then some (x,st) else match firstP toks st bs with
  | none=>some (x,st)
  | some w=>match P toks (st.1 + 1,st.2) with
   | none=>none
   | some (y,st2)=>rowL toks P bs f (twoD w x y) st2
def rowP (toks : List D) (P : Part) (bs : List (List UInt8)) (f : Nat) (st : St) : Option (D × St):=match P toks st with
 | none=>none
 | some (x,st1)=>rowL toks P bs f x st1
def gRow (w : FuncId) (P : Part) (f : Nat) : Nat -> GE:=fun p rest toks a e=>match rest with
 | [.fn w' [.ptr q 0] [],.sl none ds]=>if w' = w /\ q = p /\ ds.all isStrB = true /\ ds.length <= 100 /\ (ds.all fun d=>!(strB d).isEmpty) = true then rowP toks P (ds.map strB) f (a,e) else none
 | _=>none
theorem rowL_ex8 {P : Part} (hP : exPart P) {toks : List D} (ht : toks.all tokB = true) {bs : List (List UInt8)} : ∀ (f : Nat) (x : D) (st : St) (r : D × St),ex8 x -> rowL toks P bs f x st = some r -> ex8 r.1
 | 0,_,_,_,_,h=>by simp [rowL] at h
 | f + 1,x,st,r,hx,h=>by
  simp only [rowL] at h
  split at h
  ·injection h with h;subst h;exact hx
  ·split at h
   ·injection h with h;subst h;exact hx
   ·rename_i w _
    split at h
    ·cases h
    ·rename_i y st2 hy
     exact rowL_ex8 hP ht f _ st2 r (two_ex8 hx (hP toks _ _ ht hy)) h
theorem rowP_ex8 {P : Part} (hP : exPart P) {toks : List D} (ht : toks.all tokB = true) {bs : List (List UInt8)} {f : Nat} {st : St} {r : D × St} (h : rowP toks P bs f st = some r) : ex8 r.1:=by
 unfold rowP at h
 split at h
 ·cases h
 ·rename_i x st1 hx
  exact rowL_ex8 hP ht f x st1 r (hP toks _ _ ht hx) h
set_option maxHeartbeats 8000000 in
theorem okRow {w : FuncId} {P : Part} (hP : OkAtE Tryz.prog w (φC (gOf P))) (hx : exPart P) (hw1 : ¬ w = 69) (hw2 : ¬ 169 = w) (f : Nat) : OkAtE Tryz.prog 103 (φP (gRow w P f)):=by
 have hM : MonoH []:=.nil
 refine okP_of (l:=[(169,φtwoE)]) (m:=[]) (ee:=[(69,φC gMay),(w,φC (gOf P))]) (.cons ok169 .nil) .nil (.cons ok69 (.cons hP .nil)) fn103 fun H p n xs a e rest r a' e' hp htk hlen h=>?_
 unfold gRow at h
 split at h
 ·rename_i w' q ds
  split at h
  ·rename_i hc
   obtain ⟨hw',hq,hd,hdl,hne⟩:=hc
   have hq':=hq.symm
   subst hq'
   have hw'':=hw'.symm
   subst hw''
   have hw2' : (169 = w) = False:=eq_false hw2
   have hw1' : (w = 69) = False:=eq_false hw1
   have hw3' : (w = 169) = False:=eq_false (fun e=>hw2 e.symm)
   have qa:=φQ_at (n:=n) hp htk hlen;have qa0:=φQ_at0 (n:=n) hp htk hlen;have ca:=φC_at (n:=n) hp htk hlen;have ca0:=φC_at0 (n:=n) hp htk hlen;have rc:=rd_cu hp;have rc0:=rd_cu0 hp;have sc:=fun K : D -> S -> Prop=>st_cu (K:=K) hp;have sc0:=fun K : D -> S -> Prop=>st_cu0 (K:=K) hp
   have hr8:=rowP_ex8 hx htk h
   simp only at hr8
   unfold rowP at h
   obtain ⟨z,hz⟩ : ∃ z,P xs (a,e) = z:=⟨_,rfl⟩
   rw [hz] at h
   cases z with
   | none=>cases h
   | some z =>
   obtain ⟨x0,a0,e0⟩:=z
   simp only at h
   have hx0 : ex8 x0:=hx xs _ _ htk hz
   have hg0 : gOf P [] xs a e = some (x0,a0,e0):=hz
   refine ⟨by simp,hr8.2.2,fun T=>?_⟩
   have hx0':=hx0
   obtain ⟨⟨b0,b1,b2,b3,b4,b5,b6,b7,rfl⟩,hxe,_⟩:=hx0
   have hstr : ∀ (i : Nat) (hi : i < ds.length),ds[i]? = some (.str (strB ds[i])):=fun i hi=>by
    have:=List.all_eq_true.1 hd _ (List.getElem_mem hi)
    rw [List.getElem?_eq_getElem hi]
    cases hx : ds[i] <;> rw [hx] at this <;> simp [isStrB] at this <;> rfl
   simp +contextual (maxSteps:=10000000) only [qa,qa0,ca,ca0,rc,rc0,sc,sc0,c103,hg0,hw1',hw2',hw3',go_sem]
   refine W_for (fun i s'=>∃ c0 c1 c2 c3 c4 c5 c6 c7 b eb,ex8 (.agg [c0,c1,c2,c3,c4,c5,c6,c7]) /\ s'.t 0 = .ptr p 0 /\ s'.t 1 = .fn w [.ptr p 0] [] /\ s'.t 2 = .sl none ds /\ s'.t 6 = .ptr H.length 0 /\ s'.t 7 = .ptr (H.length + 1) 0 ∧
     s'.H = H.set p (.row [sliceD n xs,.int .i64 ((b : Nat) : Int),.int .i64 eb]) ++ [.row [.str [],.int .i64 0,.int .i64 0,.str [],.nils,.str [],.str [],.nils],.row [c0,c1,c2,c3,c4,c5,c6,c7]] /\ s'.T = T ∧
     rowL xs P (ds.map strB) (f - i) (.agg [c0,c1,c2,c3,c4,c5,c6,c7]) (b,eb) = some (r,a',e') /\ i <= f) f
    ⟨0,b0,b1,b2,b3,b4,b5,b6,b7,a0,e0,hx0',by simp [upd,argT],by simp [upd,argT],by simp [upd,argT],by simp [upd],by simp [upd],rfl,rfl,h,by omega⟩
    (fun i s h=>by obtain ⟨_,_,_,_,_,_,_,_,_,_,h⟩:=h;exact h.2.2.2.2.2.2.2.2.2) ?_ (XE_mono _ _ _)
   clear h hg0 hz hx0' hxe
   rintro i ⟨t,B,T'⟩ ⟨c0,c1,c2,c3,c4,c5,c6,c7,b,eb,hc8,r0,r1,r2,r6,r7,rfl,rfl,hz,hi⟩
   simp only at r0 r1 r2 r6 r7
   obtain ⟨k,hk⟩ : ∃ k,f - i = k:=⟨_,rfl⟩
   rw [hk] at hz
   cases k with
   | zero=>simp [rowL] at hz
   | succ k =>
   simp only [rowL] at hz
   rcases tf (eb != 0) with g | g
   ·rw [if_pos g] at hz
    injection hz with hz;injection hz with hz1 hz2;injection hz2 with hz2 hz3
    subst hz1;subst hz2;subst hz3
    have g' : (eb == 0) = false:=by simpa using g
    simp +contextual (maxSteps:=10000000) only [qa,qa0,ca,ca0,rc,rc0,sc,sc0,r0,r1,r2,r6,r7,g',go_sem]
    exact leavesE_mk hc8.2.1 ⟨_,rfl⟩ ⟨[],by simp⟩
   ·rw [if_neg (by rw [g];decide)] at hz
    have g' : (eb == 0) = true:=by simpa using g
    simp +contextual (maxSteps:=10000000) only [qa,qa0,ca,ca0,rc,rc0,sc,sc0,r0,r1,r2,r6,r7,g',go_sem]
    refine W_for (fun j s'=>s'.t 0 = .ptr p 0 /\ s'.t 1 = .fn w [.ptr p 0] [] /\ s'.t 2 = .sl none ds /\ s'.t 6 = .ptr H.length 0 /\ s'.t 7 = .ptr (H.length + 1) 0 /\ s'.t 18 = .sl none ds /\ s'.t 19 = .int .i64 ds.length /\ s'.t 20 = .int .i64 ((j : Nat) : Int) /\ s'.T = T' /\ j <= ds.length ∧
      ((s'.t 8 = .str [] /\ s'.H = H.set p (.row [sliceD n xs,.int .i64 ((b : Nat) : Int),.int .i64 eb]) ++ [.row [.str [],.int .i64 0,.int .i64 0,.str [],.nils,.str [],.str [],.nils],.row [c0,c1,c2,c3,c4,c5,c6,c7]] /\ ∀ i u,i < j -> (ds.map strB)[i]? = some u -> isP xs (b,eb) u = false) ∨
       ∃ w0,firstP xs (b,eb) (ds.map strB) = some w0 /\ (w0 == []) = false /\ s'.t 8 = .str w0 /\ s'.H = H.set p (.row [sliceD n xs,.int .i64 ((b + 1 : Nat) : Int),.int .i64 eb]) ++ [.row [.str [],.int .i64 0,.int .i64 0,.str [],.nils,.str [],.str [],.nils],.row [c0,c1,c2,c3,c4,c5,c6,c7]])) ds.length
     ⟨0,by simp [upd,r0],by simp [upd,r1],by simp [upd,r2],by simp [upd,r6],by simp [upd,r7],by simp [upd],by simp [upd],by simp [upd],rfl,by omega,.inl ⟨by simp [upd],rfl,fun i u h=>by omega⟩⟩ (fun j s h=>h.2.2.2.2.2.2.2.2.2.1) ?_ (XE_mono _ _ _)
    clear r0 r1 r2 r6 r7
    rintro j ⟨t,B,T2⟩ ⟨r0,r1,r2,r6,r7,r18,r19,r20,rfl,hj,hAB⟩
    simp only at r0 r1 r2 r6 r7 r18 r19 r20 hAB
    have gnil : (([] : List UInt8) == []) = true:=rfl
    by_cases hlt : j < ds.length
    ·have d1 : decide (((j : Nat) : Int) < ds.length) = true:=by simp only [decide_eq_true_eq];omega
     have ex:=hstr j hlt
     have hnz : (strB ds[j]).isEmpty = false:=by
      have:=List.all_eq_true.1 hne _ (List.getElem_mem hlt)
      simpa using this
     obtain ⟨u,hu⟩ : ∃ u,strB ds[j] = u:=⟨_,rfl⟩
     rw [hu] at ex hnz
     have hmap : (ds.map strB)[j]? = some u:=by rw [List.getElem?_map,ex];rfl
     have ws : IntKind.i64.wrap (((j : Nat) : Int) + 1) = ((j + 1 : Nat) : Int):=by rw [show ((j : Nat) : Int) + 1 = ((j + 1 : Nat) : Int) by omega];exact wrap_of _ (by omega) (by omega)
     have hu0 : (u == []) = false:=by cases u <;> simp at hnz ⊢
     rcases hAB with ⟨r8,rfl,hN⟩ | ⟨w0,hf0,hw0,r8,rfl⟩
     ·rcases tf (isP xs (b,eb) u) with g1 | g1
      ·have hf1:=firstP_at hmap hN g1
       simp +contextual (maxSteps:=10000000) only [qa,qa0,ca,ca0,rc,rc0,sc,sc0,r0,r1,r2,r6,r7,r8,r18,r19,r20,d1,ex,gMay,g1,ws,gnil,go_sem]
       exact ⟨by omega,.inr ⟨u,hf1,hu0,rfl⟩⟩
      ·simp +contextual (maxSteps:=10000000) only [qa,qa0,ca,ca0,rc,rc0,sc,sc0,r0,r1,r2,r6,r7,r8,r18,r19,r20,d1,ex,gMay,g1,ws,gnil,go_sem]
       refine ⟨by omega,.inl fun i v hi' hv=>?_⟩
       rcases Nat.lt_or_ge i j with h' | h'
       ·exact hN i v h' hv
       ·have : i = j:=by omega
        subst this
        rw [hmap] at hv;injection hv with hv;subst hv;exact g1
     ·simp +contextual (maxSteps:=10000000) only [qa,qa0,ca,ca0,rc,rc0,sc,sc0,r0,r1,r2,r6,r7,r8,r18,r19,r20,d1,ex,ws,hw0,go_sem]
      exact ⟨by omega,.inr ⟨w0,hf0,hw0,rfl⟩⟩
    ·have d1 : decide (((j : Nat) : Int) < ds.length) = false:=by simp only [decide_eq_false_iff_not];omega
     rcases hAB with ⟨r8,rfl,hN⟩ | ⟨w0,hf0,hw0,r8,rfl⟩
     ·have hf0 : firstP xs (b,eb) (ds.map strB) = none:=firstP_none fun v hv=>by
       obtain ⟨q,hq,rfl⟩:=List.getElem_of_mem hv
       exact hN q _ (by simp at hq;omega) (by rw [List.getElem?_eq_getElem hq])
      rw [hf0] at hz
      injection hz with hz;injection hz with hz1 hz2;injection hz2 with hz2 hz3
      subst hz1;subst hz2;subst hz3
      simp +contextual (maxSteps:=10000000) only [qa,qa0,ca,ca0,rc,rc0,sc,sc0,r0,r1,r2,r6,r7,r8,r18,r19,r20,d1,gnil,go_sem]
      exact leavesE_mk hc8.2.1 ⟨_,rfl⟩ ⟨[],by simp⟩
     ·rw [hf0] at hz
      simp only at hz
      obtain ⟨y,hy⟩ : ∃ y,P xs (b + 1,eb) = y:=⟨_,rfl⟩
      rw [hy] at hz
      cases y with
      | none=>cases hz
      | some y =>
      obtain ⟨y,b2,eb2⟩:=y
      simp only at hz
      have hy8 : ex8 y:=hx xs _ _ htk hy
      have hgy : gOf P [] xs (b + 1) eb = some (y,b2,eb2):=hy
      have ht8:=two_ex8 (op:=w0) hc8 hy8
      have ptwo : φtwoE [.str w0,.agg [c0,c1,c2,c3,c4,c5,c6,c7],y] = some (twoD w0 (.agg [c0,c1,c2,c3,c4,c5,c6,c7]) y):=by simp only [φtwoE];rw [if_pos ⟨hc8,hy8⟩]
      have ek : f - (i + 1) = k:=by omega
      obtain ⟨⟨d0,d1',d2,d3,d4,d5,d6,d7,rfl⟩,hye,_⟩:=hy8
      have hxe:=hc8.2.1
      simp only [D.erase,D.eraseL,D.agg.injEq] at hxe hye
      have erall : D.eraseL [.str w0,.agg [c0,c1,c2,c3,c4,c5,c6,c7],.agg [d0,d1',d2,d3,d4,d5,d6,d7]] = [.str w0,.agg [c0,c1,c2,c3,c4,c5,c6,c7],.agg [d0,d1',d2,d3,d4,d5,d6,d7]]:=by
       simp only [D.eraseL,D.erase,hxe,hye]
      simp only [twoD] at ptwo hz ht8
      simp +contextual (maxSteps:=10000000) only [qa,qa0,ca,ca0,rc,rc0,sc,sc0,r0,r1,r2,r6,r7,r8,r18,r19,r20,d1,hw0,hgy,hw1',hw2',hw3',pcallE hM,ptwo,erall,go_sem]
      exact ⟨_,_,_,_,_,_,_,_,b2,eb2,ht8,rfl,by rw [ek];exact hz,by omega⟩
  ·cases h
 ·cases h
end GP
namespace GP
open Go Go.Proofs
set_option maxRecDepth 100000
inductive Lv where
 | expr | and | not | cmp | sum | prod | unary | plain | inner
def wOr : List UInt8:=[111,114]
def wAnd : List UInt8:=[97,110,100]
def wNot : List UInt8:=[110,111,116]
def wNeg : List UInt8:=[110,101,103]
def wNow : List UInt8:=[110,111,119]
def wSize : List UInt8:=[115,105,122,101]
def wRole : List UInt8:=[114,111,108,101]
def wHas : List UInt8:=[104,97,115]
def wAttr : List UInt8:=[97,116,116,114]
def cmpW : List (List UInt8):=[[61,61],[33,61],[60],[60,61],[62],[62,61],[105,110]]
def oneD (op : List UInt8) (x : D) : D:=.agg [.str op,.int .i64 0,.int .i64 0,.str [],.nils,.str [],.str [],.sl none [x]]
def leafD (op who name : List UInt8) : D:=.agg [.str op,.int .i64 0,.int .i64 0,.str [],.nils,.str who,.str name,.nils]
def oneS (op : List UInt8) : Option (D × St) -> Option (D × St)
 | none=>none
 | some (x,st)=>some (oneD op x,st)
def cmpS2 (toks : List D) (P : Part) : Option (D × St) -> Option (D × St)
 | none=>none
 | some (x,st1)=>match firstP toks st1 cmpW with
  | none=>some (x,st1)
  | some w=>match P toks (st1.1 + 1,st1.2) with
   | none=>none
   | some (y,st2)=>some (twoD w x y,st2)
def innS (toks : List D) : Option (D × St) -> Option (D × St)
 | none=>none
 | some (x,st1)=>some (x,mustP toks [41] st1)
def plainP (I : Part) (f : Nat) (toks : List D) (st : St) : Option (D × St) :=
 if (literalP toks st).2.1 then some (valE (literalP toks st).1,(literalP toks st).2.2) else
 if isP toks st wNow then some (leafD wNow [] [],(st.1 + 1,st.2)) else
 if isP toks st [40] then I toks st else
 if isP toks st [91] then bagP toks f st.1 (st.1 + 1,st.2) else
 if isP toks st wSize then oneS wSize (I toks (st.1 + 1,st.2)) else
 if isP toks st wRole then some (leafD wRole [] (ts (kindP toks 3 (mustP toks [40] (st.1 + 1,st.2))).1),mustP toks [41] (kindP toks 3 (mustP toks [40] (st.1 + 1,st.2))).2) else
 if isP toks st wHas then some (leafD wHas (attrP toks (mustP toks [40] (st.1 + 1,st.2))).1 (attrP toks (mustP toks [40] (st.1 + 1,st.2))).2.1,mustP toks [41] (attrP toks (mustP toks [40] (st.1 + 1,st.2))).2.2) else
 some (leafD wAttr (attrP toks st).1 (attrP toks st).2.1,(attrP toks st).2.2)
def pLv : Nat -> Lv -> Part
 | 0,_=>fun _ _=>none
 | f + 1,.expr=>fun toks st=>rowP toks (pLv f .and) [wOr] f st
 | f + 1,.and=>fun toks st=>rowP toks (pLv f .not) [wAnd] f st
 | f + 1,.not=>fun toks st=>if isP toks st wNot then oneS wNot (pLv f .not toks (st.1 + 1,st.2)) else pLv f .cmp toks st
 | f + 1,.cmp=>fun toks st=>cmpS2 toks (pLv f .sum) (pLv f .sum toks st)
 | f + 1,.sum=>fun toks st=>rowP toks (pLv f .prod) [[43],[45]] f st
 | f + 1,.prod=>fun toks st=>rowP toks (pLv f .unary) [[42]] f st
 | f + 1,.unary=>fun toks st=>if isP toks st [45] then oneS wNeg (pLv f .unary toks (st.1 + 1,st.2)) else pLv f .plain toks st
 | f + 1,.plain=>fun toks st=>plainP (pLv f .inner) f toks st
 | f + 1,.inner=>fun toks st=>innS toks (pLv f .expr toks (mustP toks [40] st))
theorem one_ex8 {op : List UInt8} {x : D} (hx : ex8 x) : ex8 (oneD op x) :=
 ⟨⟨_,_,_,_,_,_,_,_,rfl⟩,by simp [oneD,D.erase,D.eraseL,hx.2.1],by simp [oneD,D.cl,D.clL,hx.2.2]⟩
theorem leaf_ex8 (op who name : List UInt8) : ex8 (leafD op who name):=⟨⟨_,_,_,_,_,_,_,_,rfl⟩,by simp [leafD,D.erase,D.eraseL],by simp [leafD,D.cl,D.clL]⟩
theorem oneS_ex8 {op : List UInt8} {z : Option (D × St)} {r : D × St} (hz : ∀ r,z = some r -> ex8 r.1) (h : oneS op z = some r) : ex8 r.1:=by
 cases z with
 | none=>simp [oneS] at h
 | some z =>
  obtain ⟨x,st⟩:=z
  simp only [oneS,Option.some.injEq] at h;subst h
  exact one_ex8 (hz _ rfl)
theorem val_ex8 {v : D} (h : val4 v) : ex8 (valE v):=by
 obtain ⟨k,i,s,rfl,_⟩:=h
 exact ⟨⟨_,_,_,_,_,_,_,_,rfl⟩,by simp [valE,D.cells,D.erase,D.eraseL],by simp [valE,D.cells,D.cl,D.clL]⟩
theorem bagP_ex8 {toks : List D} (ht : toks.all tokB = true) {f fr : Nat} {st : St} {r : D × St} (h : bagP toks f fr st = some r) : ex8 r.1:=by
 unfold bagP at h
 split at h
 ·cases h
 ·rename_i out st1 hb
  have hv:=(bagL_val ht f _ _ _ (fun v hv=>by rw [List.mem_singleton] at hv;subst hv;exact item_val ht st) hb).1
  split at h
  ·injection h with h;subst h
   exact ⟨⟨_,_,_,_,_,_,_,_,rfl⟩,by simp [zeroE,D.erase,D.eraseL],by simp [zeroE,D.cl,D.clL]⟩
  ·injection h with h;subst h
   have hc:=bagV_cl hv
   obtain ⟨k,i,s,n,ys,e,_⟩:=bagV_shape out
   rw [e] at hc
   simp only [e]
   have h1:=hc.1
   have h2:=hc.2
   simp only [D.cl,D.clL,Bool.and_true,Bool.true_and] at h1
   simp only [D.erase,D.eraseL,D.agg.injEq,List.cons.injEq,true_and,and_true] at h2
   exact ⟨⟨_,_,_,_,_,_,_,_,rfl⟩,by simp [valE,D.cells,D.erase,D.eraseL,h2],by simp [valE,D.cells,D.cl,D.clL,h1]⟩
theorem lv_ex8 : ∀ (f : Nat) (lv : Lv),exPart (pLv f lv)
 | 0,_,_,_,_,_,h=>by cases h
 | f + 1,lv,toks,st,r,ht,h=>by
  cases lv with
  | expr=>exact rowP_ex8 (lv_ex8 f .and) ht h
  | and=>exact rowP_ex8 (lv_ex8 f .not) ht h
  | sum=>exact rowP_ex8 (lv_ex8 f .prod) ht h
  | prod=>exact rowP_ex8 (lv_ex8 f .unary) ht h
  | not =>
   simp only [pLv] at h
   split at h
   ·exact oneS_ex8 (fun r hr=>lv_ex8 f .not toks _ r ht hr) h
   ·exact lv_ex8 f .cmp toks st r ht h
  | unary =>
   simp only [pLv] at h
   split at h
   ·exact oneS_ex8 (fun r hr=>lv_ex8 f .unary toks _ r ht hr) h
   ·exact lv_ex8 f .plain toks st r ht h
  | cmp =>
   simp only [pLv] at h
   obtain ⟨z,hz⟩ : ∃ z,pLv f .sum toks st = z:=⟨_,rfl⟩
   rw [hz] at h
   cases z with
   | none=>cases h
   | some z =>
    obtain ⟨x,st1⟩:=z
    have hx:=lv_ex8 f .sum toks _ _ ht hz
    simp only [cmpS2] at h
    split at h
    ·injection h with h;subst h;exact hx
    ·split at h
     ·cases h
     ·rename_i y st2 hy
      injection h with h;subst h
      exact two_ex8 hx (lv_ex8 f .sum toks _ _ ht hy)
  | inner =>
   simp only [pLv] at h
   obtain ⟨z,hz⟩ : ∃ z,pLv f .expr toks (mustP toks [40] st) = z:=⟨_,rfl⟩
   rw [hz] at h
   cases z with
   | none=>cases h
   | some z =>
    obtain ⟨x,st1⟩:=z
    simp only [innS,Option.some.injEq] at h;subst h
    show ex8 x
    exact lv_ex8 f .expr toks _ (x,st1) ht hz
  | plain =>
   simp only [pLv,plainP] at h
   split at h
   ·injection h with h;subst h;exact val_ex8 (lit_val ht st)
   split at h
   ·injection h with h;subst h;exact leaf_ex8 _ _ _
   split at h
   ·exact lv_ex8 f .inner toks st r ht h
   split at h
   ·exact bagP_ex8 ht h
   split at h
   ·exact oneS_ex8 (fun r hr=>lv_ex8 f .inner toks _ r ht hr) h
   split at h
   ·injection h with h;subst h;exact leaf_ex8 _ _ _
   split at h
   ·injection h with h;subst h;exact leaf_ex8 _ _ _
   ·injection h with h;subst h;exact leaf_ex8 _ _ _
theorem okExpr (f : Nat) (h0 : OkAtE Tryz.prog 104 (φC (gOf (pLv f .and)))) : OkAtE Tryz.prog 49 (φC (gOf (pLv (f + 1) .expr))):=by
 have hM : MonoH []:=.nil
 refine okC_of (l:=[]) (m:=[]) (ee:=[(103,φP (gRow 104 (pLv f .and) f))]) .nil .nil (.cons (okRow h0 (lv_ex8 f .and) (by decide) (by decide) f) .nil) fn49 fun H p n xs a e rest r a' e' hp htk hlen h=>?_
 unfold gOf at h
 split at h
 ·have qa:=φQ_at (n:=n) hp htk hlen;have qa0:=φQ_at0 (n:=n) hp htk hlen;have ca:=φC_at (n:=n) hp htk hlen;have ca0:=φC_at0 (n:=n) hp htk hlen;have rc:=rd_cu hp;have rc0:=rd_cu0 hp;have sc:=fun K : D -> S -> Prop=>st_cu (K:=K) hp;have sc0:=fun K : D -> S -> Prop=>st_cu0 (K:=K) hp
  have pa:=(fun g rest a e L=>φP_at (n:=n) hp htk hlen g rest a e L)
  have hr8 : ex8 r:=lv_ex8 (f + 1) .expr xs (a,e) (r,(a',e')) htk h
  have hg : gRow 104 (pLv f .and) f p [.fn 104 [.ptr p 0] [],.sl none [.str [111,114]]] xs a e = some (r,a',e'):=by
   simp only [gRow]
   rw [if_pos ⟨trivial,trivial,rfl,by simp,rfl⟩]
   exact h
  refine ⟨by simp,hr8.2.2,fun T=>?_⟩
  have hre:=hr8.2.1
  obtain ⟨⟨c0,c1,c2,c3,c4,c5,c6,c7,rfl⟩,_,_⟩:=hr8
  simp +contextual (maxSteps:=10000000) only [qa,qa0,ca,ca0,rc,rc0,sc,sc0,pa,c49,hg,go_sem]
  exact leavesE_mk hre ⟨_,rfl⟩ ⟨_,rfl⟩
 ·cases h
theorem okAnd (f : Nat) (h0 : OkAtE Tryz.prog 170 (φC (gOf (pLv f .not)))) : OkAtE Tryz.prog 104 (φC (gOf (pLv (f + 1) .and))):=by
 have hM : MonoH []:=.nil
 refine okC_of (l:=[]) (m:=[]) (ee:=[(103,φP (gRow 170 (pLv f .not) f))]) .nil .nil (.cons (okRow h0 (lv_ex8 f .not) (by decide) (by decide) f) .nil) fn104 fun H p n xs a e rest r a' e' hp htk hlen h=>?_
 unfold gOf at h
 split at h
 ·have qa:=φQ_at (n:=n) hp htk hlen;have qa0:=φQ_at0 (n:=n) hp htk hlen;have ca:=φC_at (n:=n) hp htk hlen;have ca0:=φC_at0 (n:=n) hp htk hlen;have rc:=rd_cu hp;have rc0:=rd_cu0 hp;have sc:=fun K : D -> S -> Prop=>st_cu (K:=K) hp;have sc0:=fun K : D -> S -> Prop=>st_cu0 (K:=K) hp
  have pa:=(fun g rest a e L=>φP_at (n:=n) hp htk hlen g rest a e L)
  have hr8 : ex8 r:=lv_ex8 (f + 1) .and xs (a,e) (r,(a',e')) htk h
  have hg : gRow 170 (pLv f .not) f p [.fn 170 [.ptr p 0] [],.sl none [.str [97,110,100]]] xs a e = some (r,a',e'):=by
   simp only [gRow]
   rw [if_pos ⟨trivial,trivial,rfl,by simp,rfl⟩]
   exact h
  refine ⟨by simp,hr8.2.2,fun T=>?_⟩
  have hre:=hr8.2.1
  obtain ⟨⟨c0,c1,c2,c3,c4,c5,c6,c7,rfl⟩,_,_⟩:=hr8
  simp +contextual (maxSteps:=10000000) only [qa,qa0,ca,ca0,rc,rc0,sc,sc0,pa,c104,hg,go_sem]
  exact leavesE_mk hre ⟨_,rfl⟩ ⟨_,rfl⟩
 ·cases h
theorem okSum (f : Nat) (h0 : OkAtE Tryz.prog 228 (φC (gOf (pLv f .prod)))) : OkAtE Tryz.prog 217 (φC (gOf (pLv (f + 1) .sum))):=by
 have hM : MonoH []:=.nil
 refine okC_of (l:=[]) (m:=[]) (ee:=[(103,φP (gRow 228 (pLv f .prod) f))]) .nil .nil (.cons (okRow h0 (lv_ex8 f .prod) (by decide) (by decide) f) .nil) fn217 fun H p n xs a e rest r a' e' hp htk hlen h=>?_
 unfold gOf at h
 split at h
 ·have qa:=φQ_at (n:=n) hp htk hlen;have qa0:=φQ_at0 (n:=n) hp htk hlen;have ca:=φC_at (n:=n) hp htk hlen;have ca0:=φC_at0 (n:=n) hp htk hlen;have rc:=rd_cu hp;have rc0:=rd_cu0 hp;have sc:=fun K : D -> S -> Prop=>st_cu (K:=K) hp;have sc0:=fun K : D -> S -> Prop=>st_cu0 (K:=K) hp
  have pa:=(fun g rest a e L=>φP_at (n:=n) hp htk hlen g rest a e L)
  have hr8 : ex8 r:=lv_ex8 (f + 1) .sum xs (a,e) (r,(a',e')) htk h
  have hg : gRow 228 (pLv f .prod) f p [.fn 228 [.ptr p 0] [],.sl none [.str [43],.str [45]]] xs a e = some (r,a',e'):=by
   simp only [gRow]
   rw [if_pos ⟨trivial,trivial,rfl,by simp,rfl⟩]
   exact h
  refine ⟨by simp,hr8.2.2,fun T=>?_⟩
  have hre:=hr8.2.1
  obtain ⟨⟨c0,c1,c2,c3,c4,c5,c6,c7,rfl⟩,_,_⟩:=hr8
  simp +contextual (maxSteps:=10000000) only [qa,qa0,ca,ca0,rc,rc0,sc,sc0,pa,c217,hg,go_sem]
  exact leavesE_mk hre ⟨_,rfl⟩ ⟨_,rfl⟩
 ·cases h
theorem okProd (f : Nat) (h0 : OkAtE Tryz.prog 236 (φC (gOf (pLv f .unary)))) : OkAtE Tryz.prog 228 (φC (gOf (pLv (f + 1) .prod))):=by
 have hM : MonoH []:=.nil
 refine okC_of (l:=[]) (m:=[]) (ee:=[(103,φP (gRow 236 (pLv f .unary) f))]) .nil .nil (.cons (okRow h0 (lv_ex8 f .unary) (by decide) (by decide) f) .nil) fn228 fun H p n xs a e rest r a' e' hp htk hlen h=>?_
 unfold gOf at h
 split at h
 ·have qa:=φQ_at (n:=n) hp htk hlen;have qa0:=φQ_at0 (n:=n) hp htk hlen;have ca:=φC_at (n:=n) hp htk hlen;have ca0:=φC_at0 (n:=n) hp htk hlen;have rc:=rd_cu hp;have rc0:=rd_cu0 hp;have sc:=fun K : D -> S -> Prop=>st_cu (K:=K) hp;have sc0:=fun K : D -> S -> Prop=>st_cu0 (K:=K) hp
  have pa:=(fun g rest a e L=>φP_at (n:=n) hp htk hlen g rest a e L)
  have hr8 : ex8 r:=lv_ex8 (f + 1) .prod xs (a,e) (r,(a',e')) htk h
  have hg : gRow 236 (pLv f .unary) f p [.fn 236 [.ptr p 0] [],.sl none [.str [42]]] xs a e = some (r,a',e'):=by
   simp only [gRow]
   rw [if_pos ⟨trivial,trivial,rfl,by simp,rfl⟩]
   exact h
  refine ⟨by simp,hr8.2.2,fun T=>?_⟩
  have hre:=hr8.2.1
  obtain ⟨⟨c0,c1,c2,c3,c4,c5,c6,c7,rfl⟩,_,_⟩:=hr8
  simp +contextual (maxSteps:=10000000) only [qa,qa0,ca,ca0,rc,rc0,sc,sc0,pa,c228,hg,go_sem]
  exact leavesE_mk hre ⟨_,rfl⟩ ⟨_,rfl⟩
 ·cases h
theorem okNot (f : Nat) (h0 : OkAtE Tryz.prog 170 (φC (gOf (pLv f .not)))) (h1 : OkAtE Tryz.prog 202 (φC (gOf (pLv f .cmp)))) : OkAtE Tryz.prog 170 (φC (gOf (pLv (f + 1) .not))):=by
 have hM : MonoH []:=.nil
 refine okC_of (l:=[]) (m:=[]) (ee:=[(69,φC gMay),(170,φC (gOf (pLv f .not))),(202,φC (gOf (pLv f .cmp)))]) .nil .nil (.cons ok69 (.cons h0 (.cons h1 .nil))) fn170 fun H p n xs a e rest r a' e' hp htk hlen h=>?_
 unfold gOf at h
 split at h
 ·have qa:=φQ_at (n:=n) hp htk hlen;have qa0:=φQ_at0 (n:=n) hp htk hlen;have ca:=φC_at (n:=n) hp htk hlen;have ca0:=φC_at0 (n:=n) hp htk hlen;have rc:=rd_cu hp;have rc0:=rd_cu0 hp;have sc:=fun K : D -> S -> Prop=>st_cu (K:=K) hp;have sc0:=fun K : D -> S -> Prop=>st_cu0 (K:=K) hp
  have hr8 : ex8 r:=lv_ex8 (f + 1) .not xs (a,e) (r,(a',e')) htk h
  refine ⟨by simp,hr8.2.2,fun T=>?_⟩
  simp only [pLv] at h
  rcases tf (isP xs (a,e) wNot) with g | g
  ·rw [if_pos g] at h
   obtain ⟨z,hz⟩ : ∃ z,pLv f .not xs (a + 1,e) = z:=⟨_,rfl⟩
   rw [hz] at h
   cases z with
   | none=>cases h
   | some z =>
    obtain ⟨x,a1,e1⟩:=z
    have hx8 : ex8 x:=lv_ex8 f .not xs (a + 1,e) (x,(a1,e1)) htk hz
    have hg : gOf (pLv f .not) [] xs (a + 1) e = some (x,a1,e1):=hz
    simp only [oneS,Option.some.injEq,Prod.mk.injEq] at h
    obtain ⟨h1,h2,h3⟩:=h
    subst h1;subst h2;subst h3
    have hre:=hr8.2.1
    have hxe:=hx8.2.1
    obtain ⟨⟨c0,c1,c2,c3,c4,c5,c6,c7,rfl⟩,_,_⟩:=hx8
    have g':=g
    (try simp only [wNot] at g')
    simp only [oneD,wNot] at hre ⊢
    simp +contextual (maxSteps:=10000000) only [qa,qa0,ca,ca0,rc,rc0,sc,sc0,c170,gMay,g',hg,go_sem]
    refine leavesE_mk ?_ ⟨_,rfl⟩ ⟨_,rfl⟩
    simp only [D.erase,D.eraseL,D.agg.injEq] at hxe ⊢
    rw [hxe]
  ·rw [if_neg (by rw [g];decide)] at h
   have hg : gOf (pLv f .cmp) [] xs a e = some (r,a',e'):=h
   have hre:=hr8.2.1
   obtain ⟨⟨c0,c1,c2,c3,c4,c5,c6,c7,rfl⟩,_,_⟩:=hr8
   have g':=g
   (try simp only [wNot] at g')
   simp +contextual (maxSteps:=10000000) only [qa,qa0,ca,ca0,rc,rc0,sc,sc0,c170,gMay,g',hg,go_sem]
   exact leavesE_mk hre ⟨_,rfl⟩ (by first | exact ⟨_,rfl⟩ | (refine ⟨[],?_⟩;simp;done))
 ·cases h
theorem okUnary (f : Nat) (h0 : OkAtE Tryz.prog 236 (φC (gOf (pLv f .unary)))) (h1 : OkAtE Tryz.prog 238 (φC (gOf (pLv f .plain)))) : OkAtE Tryz.prog 236 (φC (gOf (pLv (f + 1) .unary))):=by
 have hM : MonoH []:=.nil
 refine okC_of (l:=[]) (m:=[]) (ee:=[(69,φC gMay),(236,φC (gOf (pLv f .unary))),(238,φC (gOf (pLv f .plain)))]) .nil .nil (.cons ok69 (.cons h0 (.cons h1 .nil))) fn236 fun H p n xs a e rest r a' e' hp htk hlen h=>?_
 unfold gOf at h
 split at h
 ·have qa:=φQ_at (n:=n) hp htk hlen;have qa0:=φQ_at0 (n:=n) hp htk hlen;have ca:=φC_at (n:=n) hp htk hlen;have ca0:=φC_at0 (n:=n) hp htk hlen;have rc:=rd_cu hp;have rc0:=rd_cu0 hp;have sc:=fun K : D -> S -> Prop=>st_cu (K:=K) hp;have sc0:=fun K : D -> S -> Prop=>st_cu0 (K:=K) hp
  have hr8 : ex8 r:=lv_ex8 (f + 1) .unary xs (a,e) (r,(a',e')) htk h
  refine ⟨by simp,hr8.2.2,fun T=>?_⟩
  simp only [pLv] at h
  rcases tf (isP xs (a,e) [45]) with g | g
  ·rw [if_pos g] at h
   obtain ⟨z,hz⟩ : ∃ z,pLv f .unary xs (a + 1,e) = z:=⟨_,rfl⟩
   rw [hz] at h
   cases z with
   | none=>cases h
   | some z =>
    obtain ⟨x,a1,e1⟩:=z
    have hx8 : ex8 x:=lv_ex8 f .unary xs (a + 1,e) (x,(a1,e1)) htk hz
    have hg : gOf (pLv f .unary) [] xs (a + 1) e = some (x,a1,e1):=hz
    simp only [oneS,Option.some.injEq,Prod.mk.injEq] at h
    obtain ⟨h1,h2,h3⟩:=h
    subst h1;subst h2;subst h3
    have hre:=hr8.2.1
    have hxe:=hx8.2.1
    obtain ⟨⟨c0,c1,c2,c3,c4,c5,c6,c7,rfl⟩,_,_⟩:=hx8
    have g':=g
    (try simp only [wNeg] at g')
    simp only [oneD,wNeg] at hre ⊢
    simp +contextual (maxSteps:=10000000) only [qa,qa0,ca,ca0,rc,rc0,sc,sc0,c236,gMay,g',hg,go_sem]
    refine leavesE_mk ?_ ⟨_,rfl⟩ ⟨_,rfl⟩
    simp only [D.erase,D.eraseL,D.agg.injEq] at hxe ⊢
    rw [hxe]
  ·rw [if_neg (by rw [g];decide)] at h
   have hg : gOf (pLv f .plain) [] xs a e = some (r,a',e'):=h
   have hre:=hr8.2.1
   obtain ⟨⟨c0,c1,c2,c3,c4,c5,c6,c7,rfl⟩,_,_⟩:=hr8
   have g':=g
   (try simp only [wNeg] at g')
   simp +contextual (maxSteps:=10000000) only [qa,qa0,ca,ca0,rc,rc0,sc,sc0,c236,gMay,g',hg,go_sem]
   exact leavesE_mk hre ⟨_,rfl⟩ (by first | exact ⟨_,rfl⟩ | (refine ⟨[],?_⟩;simp;done))
 ·cases h
theorem okInner (f : Nat) (h0 : OkAtE Tryz.prog 49 (φC (gOf (pLv f .expr)))) : OkAtE Tryz.prog 240 (φC (gOf (pLv (f + 1) .inner))):=by
 have hM : MonoH []:=.nil
 refine okC_of (l:=[]) (m:=[]) (ee:=[(71,φC gMust),(49,φC (gOf (pLv f .expr)))]) .nil .nil (.cons ok71 (.cons h0 .nil)) fn240 fun H p n xs a e rest r a' e' hp htk hlen h=>?_
 unfold gOf at h
 split at h
 ·have qa:=φQ_at (n:=n) hp htk hlen;have qa0:=φQ_at0 (n:=n) hp htk hlen;have ca:=φC_at (n:=n) hp htk hlen;have ca0:=φC_at0 (n:=n) hp htk hlen;have rc:=rd_cu hp;have rc0:=rd_cu0 hp;have sc:=fun K : D -> S -> Prop=>st_cu (K:=K) hp;have sc0:=fun K : D -> S -> Prop=>st_cu0 (K:=K) hp
  have hr8 : ex8 r:=lv_ex8 (f + 1) .inner xs (a,e) (r,(a',e')) htk h
  refine ⟨by simp,hr8.2.2,fun T=>?_⟩
  simp only [pLv] at h
  obtain ⟨⟨a1,e1⟩,hm1⟩ : ∃ st,mustP xs [40] (a,e) = st:=⟨_,rfl⟩
  rw [hm1] at h
  have hg1 : gMust [.str [40]] xs a e = some (.tup [],a1,e1):=by simp only [gMust,hm1]
  obtain ⟨z,hz⟩ : ∃ z,pLv f .expr xs (a1,e1) = z:=⟨_,rfl⟩
  rw [hz] at h
  cases z with
  | none=>cases h
  | some z =>
   obtain ⟨x,a2,e2⟩:=z
   have hg2 : gOf (pLv f .expr) [] xs a1 e1 = some (x,a2,e2):=hz
   obtain ⟨⟨a3,e3⟩,hm3⟩ : ∃ st,mustP xs [41] (a2,e2) = st:=⟨_,rfl⟩
   have hg3 : gMust [.str [41]] xs a2 e2 = some (.tup [],a3,e3):=by simp only [gMust,hm3]
   simp only [innS,hm3,Option.some.injEq,Prod.mk.injEq] at h
   obtain ⟨h1,h2,h3⟩:=h
   subst h1;subst h2;subst h3
   have hre:=hr8.2.1
   obtain ⟨⟨c0,c1,c2,c3,c4,c5,c6,c7,rfl⟩,_,_⟩:=hr8
   simp +contextual (maxSteps:=10000000) only [qa,qa0,ca,ca0,rc,rc0,sc,sc0,c240,hg1,hg2,hg3,go_sem]
   exact leavesE_mk hre ⟨_,rfl⟩ (by first | exact ⟨_,rfl⟩ | (refine ⟨[],?_⟩;simp;done))
 ·cases h
set_option maxHeartbeats 4000000 in
theorem okCmp (f : Nat) (h0 : OkAtE Tryz.prog 217 (φC (gOf (pLv f .sum)))) : OkAtE Tryz.prog 202 (φC (gOf (pLv (f + 1) .cmp))):=by
 have hM : MonoH []:=.nil
 refine okC_of (l:=[(169,φtwoE)]) (m:=[]) (ee:=[(69,φC gMay),(217,φC (gOf (pLv f .sum)))]) (.cons ok169 .nil) .nil (.cons ok69 (.cons h0 .nil)) fn202 fun H p n xs a e rest r a' e' hp htk hlen h=>?_
 unfold gOf at h
 split at h
 ·have qa:=φQ_at (n:=n) hp htk hlen;have qa0:=φQ_at0 (n:=n) hp htk hlen;have ca:=φC_at (n:=n) hp htk hlen;have ca0:=φC_at0 (n:=n) hp htk hlen;have rc:=rd_cu hp;have rc0:=rd_cu0 hp;have sc:=fun K : D -> S -> Prop=>st_cu (K:=K) hp;have sc0:=fun K : D -> S -> Prop=>st_cu0 (K:=K) hp
  have hr8 : ex8 r:=lv_ex8 (f + 1) .cmp xs (a,e) (r,(a',e')) htk h
  refine ⟨by simp,hr8.2.2,fun T=>?_⟩
  simp only [pLv] at h
  obtain ⟨z,hz⟩ : ∃ z,pLv f .sum xs (a,e) = z:=⟨_,rfl⟩
  rw [hz] at h
  cases z with
  | none=>cases h
  | some z =>
  obtain ⟨x,b,eb⟩:=z
  have hx8 : ex8 x:=lv_ex8 f .sum xs (a,e) (x,(b,eb)) htk hz
  have hg : gOf (pLv f .sum) [] xs a e = some (x,b,eb):=hz
  simp only [cmpS2] at h
  have hx8':=hx8
  have hxe:=hx8.2.1
  obtain ⟨⟨c0,c1,c2,c3,c4,c5,c6,c7,rfl⟩,_,_⟩:=hx8
  simp +contextual (maxSteps:=10000000) only [qa,qa0,ca,ca0,rc,rc0,sc,sc0,c202,hg,go_sem]
  obtain ⟨ds,hds⟩ : ∃ ds,[D.str [61,61],D.str [33,61],D.str [60],D.str [60,61],D.str [62],D.str [62,61],D.str [105,110]] = ds:=⟨_,rfl⟩
  have hmapW : ds.map strB = cmpW:=by rw [<- hds];rfl
  have hd : ds.all isStrB = true:=by rw [<- hds];rfl
  have hdl : ds.length = 7:=by rw [<- hds];rfl
  rw [hds]
  have hstr : ∀ (i : Nat) (hi : i < ds.length),ds[i]? = some (.str (strB ds[i])):=fun i hi=>by
   have:=List.all_eq_true.1 hd _ (List.getElem_mem hi)
   rw [List.getElem?_eq_getElem hi]
   cases hx : ds[i] <;> rw [hx] at this <;> simp [isStrB] at this <;> rfl
  clear hds hg hz
  refine W_for (fun i s'=>s'.t 0 = .ptr p 0 /\ s'.t 2 = .ptr H.length 0 /\ s'.t 3 = .ptr (H.length + 1) 0 /\ s'.t 8 = .sl (some T.length) ds /\ s'.t 9 = .int .i64 7 /\ s'.t 10 = .int .i64 ((i : Nat) : Int) ∧
    s'.H = H.set p (.row [sliceD n xs,.int .i64 ((b : Nat) : Int),.int .i64 eb]) ++ [.row [.str [],.int .i64 0,.int .i64 0,.str [],.nils,.str [],.str [],.nils],.row [c0,c1,c2,c3,c4,c5,c6,c7]] /\ s'.T = T ++ [some (7,1)] /\ i <= 7 /\ ∀ j u,j < i -> (ds.map strB)[j]? = some u -> isP xs (b,eb) u = false) 7
   ⟨0,by simp [upd,argT],by simp [upd],by simp [upd],by simp [upd],by simp [upd],by simp [upd],rfl,rfl,by omega,fun j u h=>by omega⟩ (fun i s h=>h.2.2.2.2.2.2.2.2.1) ?_ (XE_mono _ _ _)
  rintro i ⟨t,B,T'⟩ ⟨r0,r2,r3,r8,r9,r10,rfl,rfl,hi,hN⟩
  simp only at r0 r2 r3 r8 r9 r10
  by_cases hlt : i < 7
  ·have d1 : decide (((i : Nat) : Int) < 7) = true:=by simp only [decide_eq_true_eq];omega
   have ex:=hstr i (by omega)
   obtain ⟨u,hu⟩ : ∃ u,strB ds[i] = u:=⟨_,rfl⟩
   rw [hu] at ex
   have hmap : (ds.map strB)[i]? = some u:=by rw [List.getElem?_map,ex];rfl
   have ws : IntKind.i64.wrap (((i : Nat) : Int) + 1) = ((i + 1 : Nat) : Int):=by rw [show ((i : Nat) : Int) + 1 = ((i + 1 : Nat) : Int) by omega];exact wrap_of _ (by omega) (by omega)
   rcases tf (isP xs (b,eb) u) with g1 | g1
   ·have hf1:=firstP_at hmap hN g1
    rw [hmapW] at hf1
    rw [hf1] at h
    simp only at h
    obtain ⟨y,hy⟩ : ∃ y,pLv f .sum xs (b + 1,eb) = y:=⟨_,rfl⟩
    rw [hy] at h
    cases y with
    | none=>cases h
    | some y =>
    obtain ⟨y,b2,eb2⟩:=y
    have hy8 : ex8 y:=lv_ex8 f .sum xs (b + 1,eb) (y,(b2,eb2)) htk hy
    have hgy : gOf (pLv f .sum) [] xs (b + 1) eb = some (y,b2,eb2):=hy
    simp only [Option.some.injEq,Prod.mk.injEq] at h
    obtain ⟨h1,h2,h3⟩:=h
    subst h1;subst h2;subst h3
    have ptwo : φtwoE [.str u,.agg [c0,c1,c2,c3,c4,c5,c6,c7],y] = some (twoD u (.agg [c0,c1,c2,c3,c4,c5,c6,c7]) y):=by simp only [φtwoE];rw [if_pos ⟨hx8',hy8⟩]
    obtain ⟨⟨d0,d1',d2,d3,d4,d5,d6,d7,rfl⟩,hye,_⟩:=hy8
    have hre:=hr8.2.1
    simp only [D.erase,D.eraseL,D.agg.injEq] at hxe hye
    have erall : D.eraseL [.str u,.agg [c0,c1,c2,c3,c4,c5,c6,c7],.agg [d0,d1',d2,d3,d4,d5,d6,d7]] = [.str u,.agg [c0,c1,c2,c3,c4,c5,c6,c7],.agg [d0,d1',d2,d3,d4,d5,d6,d7]]:=by
     simp only [D.eraseL,D.erase,hxe,hye]
    simp only [twoD] at ptwo hre ⊢
    simp +contextual (maxSteps:=10000000) only [qa,qa0,ca,ca0,rc,rc0,sc,sc0,r0,r2,r3,r8,r9,r10,d1,ex,gMay,g1,hgy,pcallE hM,ptwo,erall,go_sem]
    exact leavesE_mk hre ⟨_,rfl⟩ ⟨_,rfl⟩
   ·simp +contextual (maxSteps:=10000000) only [qa,qa0,ca,ca0,rc,rc0,sc,sc0,r0,r2,r3,r8,r9,r10,d1,ex,gMay,g1,ws,go_sem]
    refine ⟨by omega,fun j v hj hv=>?_⟩
    rcases Nat.lt_or_ge j i with h' | h'
    ·exact hN j v h' hv
    ·have : j = i:=by omega
     subst this
     rw [hmap] at hv;injection hv with hv;subst hv;exact g1
  ·have d1 : decide (((i : Nat) : Int) < 7) = false:=by simp only [decide_eq_false_iff_not];omega
   have hf0 : firstP xs (b,eb) cmpW = none:=by
    rw [<- hmapW]
    exact firstP_none fun v hv=>by
     obtain ⟨q,hq,rfl⟩:=List.getElem_of_mem hv
     exact hN q _ (by simp at hq;omega) (by rw [List.getElem?_eq_getElem hq])
   rw [hf0] at h
   simp only [Option.some.injEq,Prod.mk.injEq] at h
   obtain ⟨h1,h2,h3⟩:=h
   subst h1;subst h2;subst h3
   simp +contextual (maxSteps:=10000000) only [qa,qa0,ca,ca0,rc,rc0,sc,sc0,r0,r2,r3,r8,r9,r10,d1,go_sem]
   exact leavesE_mk hxe ⟨_,rfl⟩ ⟨_,rfl⟩
 ·cases h
theorem lit_false {toks : List D} {st : St} (h : (literalP toks st).2.1 = false) : literalP toks st = (zeroV,false,st):=by
 revert h
 unfold literalP
 (repeat' split) <;> simp
set_option maxHeartbeats 8000000 in
theorem okPlain (f : Nat) (hf : f <= 10000) (h0 : OkAtE Tryz.prog 240 (φC (gOf (pLv f .inner)))) : OkAtE Tryz.prog 238 (φC (gOf (pLv (f + 1) .plain))):=by
 have hM : MonoH [(117,φQ gIs)]:=.cons (φQ_mono gIs) .nil
 refine okC_of (l:=[]) (m:=[(117,φQ gIs)]) (ee:=[(69,φC gMay),(71,φC gMust),(118,φC gAttr),(120,φC gKind),(239,φC gLit),(241,φC (gBag f)),(240,φC (gOf (pLv f .inner)))]) .nil (.cons ok117 .nil)
  (.cons ok69 (.cons ok71 (.cons ok118 (.cons ok120 (.cons ok239 (.cons (ok241 f hf) (.cons h0 .nil))))))) fn238 fun H p n xs a e rest r a' e' hp htk hlen h=>?_
 unfold gOf at h
 split at h
 ·have qa:=φQ_at (n:=n) hp htk hlen;have qa0:=φQ_at0 (n:=n) hp htk hlen;have ca:=φC_at (n:=n) hp htk hlen;have ca0:=φC_at0 (n:=n) hp htk hlen;have rc:=rd_cu hp;have rc0:=rd_cu0 hp;have sc:=fun K : D -> S -> Prop=>st_cu (K:=K) hp;have sc0:=fun K : D -> S -> Prop=>st_cu0 (K:=K) hp
  have hr8 : ex8 r:=lv_ex8 (f + 1) .plain xs (a,e) (r,(a',e')) htk h
  refine ⟨by simp,hr8.2.2,fun T=>?_⟩
  have hre:=hr8.2.1
  simp only [pLv,plainP] at h
  obtain ⟨k1,i1,s1,f1,hs1⟩:=lit_val htk (a,e)
  obtain ⟨⟨b1,a1,e1⟩,f2⟩ : ∃ z,(literalP xs (a,e)).2 = z:=⟨_,rfl⟩
  have f3 : literalP xs (a,e) = (.agg [.int .i64 k1,.int .i64 i1,.str s1,.nils],b1,a1,e1):=by rw [<- f1,← f2]
  have hlit : gLit [] xs a e = some (.tup [.agg [.int .i64 k1,.int .i64 i1,.str s1,.nils],.bool b1],a1,e1):=by simp only [gLit,f3]
  cases b1 with
  | true =>
   rw [f3] at h
   simp only [if_true,Option.some.injEq,Prod.mk.injEq] at h
   obtain ⟨h1,h2,h3⟩:=h
   subst h1;subst h2;subst h3
   simp only [valE,D.cells,List.cons_append,List.nil_append] at hre ⊢
   simp +contextual (maxSteps:=10000000) only [qa,qa0,ca,ca0,rc,rc0,sc,sc0,c238,hlit,go_sem]
   exact leavesE_mk hre ⟨_,rfl⟩ (by first | exact ⟨_,rfl⟩ | (refine ⟨[],?_⟩;simp;done))
  | false =>
  have lf:=lit_false (toks:=xs) (st:=(a,e)) (by rw [f3])
  rw [lf] at h
  rw [lf] at f3
  simp only [zeroV,Prod.mk.injEq,D.agg.injEq,List.cons.injEq,D.int.injEq,D.str.injEq,true_and,and_true] at f3
  obtain ⟨⟨f4,f5,f6⟩,f7,f8⟩:=f3
  subst f4;subst f5;subst f6;subst f7;subst f8
  simp only [Bool.false_eq_true,if_false] at h
  rcases tf (isP xs (a,e) wNow) with g1 | g1
  ·rw [if_pos g1] at h
   simp only [Option.some.injEq,Prod.mk.injEq] at h
   obtain ⟨h1,h2,h3⟩:=h
   subst h1;subst h2;subst h3
   simp only [wNow] at g1
   simp only [leafD,wNow] at hre ⊢
   simp +contextual (maxSteps:=10000000) only [qa,qa0,ca,ca0,rc,rc0,sc,sc0,c238,hlit,gMay,g1,go_sem]
   exact leavesE_mk hre ⟨_,rfl⟩ (by first | exact ⟨_,rfl⟩ | (refine ⟨[],?_⟩;simp;done))
  rw [if_neg (by rw [g1];decide)] at h
  simp only [wNow] at g1
  have i1 : gIs [.str [40]] xs a e = some (.bool (isP xs (a,e) [40])):=rfl
  rcases tf (isP xs (a,e) [40]) with g2 | g2
  ·rw [if_pos g2] at h
   rw [g2] at i1
   have hg : gOf (pLv f .inner) [] xs a e = some (r,a',e'):=h
   obtain ⟨⟨c0,c1,c2,c3,c4,c5,c6,c7,rfl⟩,_,_⟩:=hr8
   simp +contextual (maxSteps:=10000000) only [qa,qa0,ca,ca0,rc,rc0,sc,sc0,c238,hlit,gMay,g1,i1,hg,pcallE hM,go_sem]
   exact leavesE_mk hre ⟨_,rfl⟩ (by first | exact ⟨_,rfl⟩ | (refine ⟨[],?_⟩;simp;done))
  rw [if_neg (by rw [g2];decide)] at h
  rw [g2] at i1
  rcases tf (isP xs (a,e) [91]) with g3 | g3
  ·rw [if_pos g3] at h
   have hg : gBag f [.int .i64 ((a : Nat) : Int)] xs (a + 1) e = some (r,a',e'):=by
    simp only [gBag]
    rw [if_pos (by omega),Int.toNat_natCast];exact h
   obtain ⟨⟨c0,c1,c2,c3,c4,c5,c6,c7,rfl⟩,_,_⟩:=hr8
   simp +contextual (maxSteps:=10000000) only [qa,qa0,ca,ca0,rc,rc0,sc,sc0,c238,hlit,gMay,g1,g3,i1,hg,pcallE hM,go_sem]
   exact leavesE_mk hre ⟨_,rfl⟩ (by first | exact ⟨_,rfl⟩ | (refine ⟨[],?_⟩;simp;done))
  rw [if_neg (by rw [g3];decide)] at h
  rcases tf (isP xs (a,e) wSize) with g4 | g4
  ·rw [if_pos g4] at h
   obtain ⟨z,hz⟩ : ∃ z,pLv f .inner xs (a + 1,e) = z:=⟨_,rfl⟩
   rw [hz] at h
   cases z with
   | none=>cases h
   | some z =>
    obtain ⟨x,b1,eb1⟩:=z
    have hx8 : ex8 x:=lv_ex8 f .inner xs (a + 1,e) (x,(b1,eb1)) htk hz
    have hg : gOf (pLv f .inner) [] xs (a + 1) e = some (x,b1,eb1):=hz
    simp only [oneS,Option.some.injEq,Prod.mk.injEq] at h
    obtain ⟨h1,h2,h3⟩:=h
    subst h1;subst h2;subst h3
    have hxe:=hx8.2.1
    obtain ⟨⟨c0,c1,c2,c3,c4,c5,c6,c7,rfl⟩,_,_⟩:=hx8
    simp only [wSize] at g4
    simp only [oneD,wSize] at hre ⊢
    simp +contextual (maxSteps:=10000000) only [qa,qa0,ca,ca0,rc,rc0,sc,sc0,c238,hlit,gMay,g1,g3,g4,i1,hg,pcallE hM,go_sem]
    refine leavesE_mk ?_ ⟨_,rfl⟩ ⟨_,rfl⟩
    simp only [D.erase,D.eraseL,D.agg.injEq] at hxe ⊢
    rw [hxe]
  rw [if_neg (by rw [g4];decide)] at h
  simp only [wSize] at g4
  rcases tf (isP xs (a,e) wRole) with g5 | g5
  ·rw [if_pos g5] at h
   obtain ⟨⟨b1,eb1⟩,hm1⟩ : ∃ st,mustP xs [40] (a + 1,e) = st:=⟨_,rfl⟩
   obtain ⟨k2,s2,m2,q1,hs2⟩:=kindP_cl htk 3 (b1,eb1)
   obtain ⟨⟨b2,eb2⟩,q2⟩ : ∃ st,(kindP xs 3 (b1,eb1)).2 = st:=⟨_,rfl⟩
   have q3 : kindP xs 3 (b1,eb1) = (mkT k2 s2 m2,b2,eb2):=by rw [<- q1,← q2]
   obtain ⟨⟨b3,eb3⟩,hm3⟩ : ∃ st,mustP xs [41] (b2,eb2) = st:=⟨_,rfl⟩
   have hg1 : gMust [.str [40]] xs (a + 1) e = some (.tup [],b1,eb1):=by simp only [gMust,hm1]
   have hg2 : gKind [.int .i64 3] xs b1 eb1 = some (mkT k2 s2 m2,b2,eb2):=by simp only [gKind];rw [if_neg (by decide),q3]
   have hg3 : gMust [.str [41]] xs b2 eb2 = some (.tup [],b3,eb3):=by simp only [gMust,hm3]
   simp only [hm1,q3,hm3,ts_mk,Option.some.injEq,Prod.mk.injEq] at h
   obtain ⟨h1,h2,h3⟩:=h
   subst h1;subst h2;subst h3
   simp only [wRole] at g5
   simp only [mkT] at hg2
   simp only [leafD,wRole] at hre ⊢
   simp +contextual (maxSteps:=10000000) only [qa,qa0,ca,ca0,rc,rc0,sc,sc0,c238,hlit,gMay,g1,g3,g4,g5,i1,hg1,hg2,hg3,pcallE hM,go_sem]
   exact leavesE_mk hre ⟨_,rfl⟩ (by first | exact ⟨_,rfl⟩ | (refine ⟨[],?_⟩;simp;done))
  rw [if_neg (by rw [g5];decide)] at h
  simp only [wRole] at g5
  rcases tf (isP xs (a,e) wHas) with g6 | g6
  ·rw [if_pos g6] at h
   obtain ⟨⟨b1,eb1⟩,hm1⟩ : ∃ st,mustP xs [40] (a + 1,e) = st:=⟨_,rfl⟩
   obtain ⟨u1,u2,⟨b2,eb2⟩,q3⟩ : ∃ u1 u2 st,attrP xs (b1,eb1) = (u1,u2,st):=⟨_,_,_,rfl⟩
   obtain ⟨⟨b3,eb3⟩,hm3⟩ : ∃ st,mustP xs [41] (b2,eb2) = st:=⟨_,rfl⟩
   have hg1 : gMust [.str [40]] xs (a + 1) e = some (.tup [],b1,eb1):=by simp only [gMust,hm1]
   have hg2 : gAttr [] xs b1 eb1 = some (.tup [.str u1,.str u2],b2,eb2):=by simp only [gAttr,q3]
   have hg3 : gMust [.str [41]] xs b2 eb2 = some (.tup [],b3,eb3):=by simp only [gMust,hm3]
   simp only [hm1,q3,hm3,Option.some.injEq,Prod.mk.injEq] at h
   obtain ⟨h1,h2,h3⟩:=h
   subst h1;subst h2;subst h3
   simp only [wHas] at g6
   simp only [leafD,wHas] at hre ⊢
   simp +contextual (maxSteps:=10000000) only [qa,qa0,ca,ca0,rc,rc0,sc,sc0,c238,hlit,gMay,g1,g3,g4,g5,g6,i1,hg1,hg2,hg3,pcallE hM,go_sem]
   exact leavesE_mk hre ⟨_,rfl⟩ (by first | exact ⟨_,rfl⟩ | (refine ⟨[],?_⟩;simp;done))
  rw [if_neg (by rw [g6];decide)] at h
  simp only [wHas] at g6
  obtain ⟨u1,u2,⟨b2,eb2⟩,q3⟩ : ∃ u1 u2 st,attrP xs (a,e) = (u1,u2,st):=⟨_,_,_,rfl⟩
  have hg2 : gAttr [] xs a e = some (.tup [.str u1,.str u2],b2,eb2):=by simp only [gAttr,q3]
  simp only [q3,Option.some.injEq,Prod.mk.injEq] at h
  obtain ⟨h1,h2,h3⟩:=h
  subst h1;subst h2;subst h3
  simp only [leafD,wAttr] at hre ⊢
  simp +contextual (maxSteps:=10000000) only [qa,qa0,ca,ca0,rc,rc0,sc,sc0,c238,hlit,gMay,g1,g3,g4,g5,g6,i1,hg2,pcallE hM,go_sem]
  exact leavesE_mk hre ⟨_,rfl⟩ (by first | exact ⟨_,rfl⟩ | (refine ⟨[],?_⟩;simp;done))
 ·cases h
theorem okLv : ∀ f,f <= 10000 -> OkAtE Tryz.prog 49 (φC (gOf (pLv f .expr))) /\ OkAtE Tryz.prog 104 (φC (gOf (pLv f .and))) /\ OkAtE Tryz.prog 170 (φC (gOf (pLv f .not))) /\ OkAtE Tryz.prog 202 (φC (gOf (pLv f .cmp))) /\ OkAtE Tryz.prog 217 (φC (gOf (pLv f .sum))) ∧
  OkAtE Tryz.prog 228 (φC (gOf (pLv f .prod))) /\ OkAtE Tryz.prog 236 (φC (gOf (pLv f .unary))) /\ OkAtE Tryz.prog 238 (φC (gOf (pLv f .plain))) /\ OkAtE Tryz.prog 240 (φC (gOf (pLv f .inner)))
 | 0,_=>by
  have z : ∀ (lv : Lv) (N : FuncId),OkAtE Tryz.prog N (φC (gOf (pLv 0 lv))):=fun lv N H args r H' h=>by
   exfalso
   unfold φC at h
   split at h
   ·obtain ⟨_,_,_,_,_,_,_,_,_,_,_,h5,_⟩:=cuE_elim h
    unfold gOf at h5
    split at h5
    ·cases lv <;> cases h5
    ·cases h5
   ·cases h
  exact ⟨z _ _,z _ _,z _ _,z _ _,z _ _,z _ _,z _ _,z _ _,z _ _⟩
 | f + 1,hf=>by
  obtain ⟨h1,h2,h3,h4,h5,h6,h7,h8,h9⟩:=okLv f (by omega)
  exact ⟨okExpr f h2,okAnd f h3,okNot f h3 h4,okCmp f h5,okSum f h6,okProd f h7,okUnary f h7 h8,okPlain f (by omega) h9,okInner f h1⟩
end GP
namespace GP
open Go Go.Proofs
set_option maxRecDepth 100000
def rem (toks : List D) (st : St) : Nat:=if st.2 == 0 then toks.length - st.1 else 0
theorem rem_may {toks : List D} {st : St} {w : List UInt8} (h : isP toks st w = true) : rem toks (st.1 + 1,st.2) < rem toks st:=by
 obtain ⟨h1,h2⟩:=isP_lt h
 unfold rem
 rw [h2]
 simp only [beq_self_eq_true,if_true]
 omega
theorem rem_now {toks : List D} {st : St} (h : tk (nowS toks st) ≠ 0) : rem toks (st.1 + 1,st.2) < rem toks st:=by
 obtain ⟨h1,h2⟩:=nowP_lt (toks:=toks) (a:=st.1) (e:=st.2) h
 unfold rem
 rw [h2]
 simp only [beq_self_eq_true,if_true]
 omega
theorem rem_fail (toks : List D) (n : Nat) (st : St) : rem toks (failP n 2 st) <= rem toks st:=by
 unfold failP
 split
 ·unfold rem;simp
 ·exact Nat.le_refl _
theorem rem_must (toks : List D) (w : List UInt8) (st : St) : rem toks (mustP toks w st) <= rem toks st:=by
 unfold mustP
 split
 ·rename_i h;exact Nat.le_of_lt (rem_may h)
 ·exact rem_fail _ _ _
theorem rem_must_lt {toks : List D} {w : List UInt8} {st : St} (h : isP toks st w = true) : rem toks (mustP toks w st) < rem toks st:=by
 unfold mustP;rw [if_pos h];exact rem_may h
theorem rem_kind (toks : List D) {k : Int} (hk : k ≠ 0) (st : St) : rem toks (kindP toks k st).2 <= rem toks st:=by
 unfold kindP
 split
 ·exact rem_fail _ _ _
 ·rename_i h
  have : tk (nowS toks st) = k:=by simpa using h
  exact Nat.le_of_lt (rem_now (by omega))
theorem rem_name (toks : List D) (st : St) : rem toks (nameP toks st).2 <= rem toks st:=by
 unfold nameP
 split
 ·exact rem_fail _ _ _
 ·rename_i h
  simp only [Bool.or_eq_true,not_or,bne_iff_ne,ne_eq,Decidable.not_not] at h
  exact Nat.le_of_lt (rem_now (by omega))
theorem firstP_is {toks : List D} {st : St} : ∀ {ws : List (List UInt8)} {w : List UInt8},firstP toks st ws = some w -> isP toks st w = true
 | [],w,h=>by cases h
 | x :: r,w,h=>by
  simp only [firstP] at h
  split at h
  ·injection h with h;subst h;assumption
  ·exact firstP_is h
theorem rem_one (toks : List D) (ws : List (List UInt8)) (st : St) : rem toks (oneP toks ws st).2 <= rem toks st:=by
 unfold oneP
 split
 ·rename_i w h;exact Nat.le_of_lt (rem_may (firstP_is h))
 ·exact rem_fail _ _ _
theorem rem_attr (toks : List D) (st : St) : rem toks (attrP toks st).2.2 <= rem toks st:=by
 unfold attrP
 exact Nat.le_trans (rem_name _ _) (Nat.le_trans (rem_must _ _ _) (rem_one _ _ _))
theorem rem_lit (toks : List D) (st : St) : rem toks (literalP toks st).2.2 <= rem toks st:=by
 unfold literalP
 split
 ·rename_i h;have : tk (nowS toks st) = 2:=by simpa using h
  exact Nat.le_of_lt (rem_now (by omega))
 split
 ·rename_i h;have : tk (nowS toks st) = 3:=by simpa using h
  exact Nat.le_of_lt (rem_now (by omega))
 split
 ·rename_i h;have : tk (nowS toks st) = 4:=by simpa using h
  exact Nat.le_of_lt (rem_now (by omega))
 split
 ·rename_i h
  simp only [Bool.or_eq_true] at h
  rcases h with h | h <;> exact Nat.le_of_lt (rem_may h)
 ·exact Nat.le_refl _
theorem rem_item (toks : List D) (st : St) : rem toks (itemP toks st).2 <= rem toks st:=by
 unfold itemP
 split
 ·rename_i h;exact Nat.le_trans (rem_kind _ (by decide) _) (Nat.le_of_lt (rem_may h))
 split
 ·exact rem_lit _ _
 ·exact Nat.le_trans (rem_fail _ _ _) (rem_lit _ _)
theorem bagL_tot (toks : List D) : ∀ (f : Nat) (out : List D) (st : St),rem toks st < f -> ∃ o st2,bagL toks f out st = some (o,st2) /\ rem toks st2 <= rem toks st
 | 0,_,_,h=>by omega
 | f + 1,out,st,h=>by
  simp only [bagL]
  split
  ·rename_i g
   have h1:=rem_may g
   have h2:=rem_item toks (st.1 + 1,st.2)
   obtain ⟨o,st2,e,k⟩:=bagL_tot toks f (out ++ [(itemP toks (st.1 + 1,st.2)).1]) (itemP toks (st.1 + 1,st.2)).2 (by omega)
   exact ⟨o,st2,e,by omega⟩
  ·exact ⟨out,st,rfl,Nat.le_refl _⟩
theorem bagP_tot (toks : List D) {f fr : Nat} {st : St} (h : rem toks st < f) : ∃ x st2,bagP toks f fr st = some (x,st2) /\ rem toks st2 <= rem toks st:=by
 have h1:=rem_item toks st
 obtain ⟨o,st1,e,k⟩:=bagL_tot toks f [(itemP toks st).1] (itemP toks st).2 (by omega)
 unfold bagP
 rw [e]
 have h2:=rem_must toks [93] st1
 simp only
 split
 ·exact ⟨_,_,rfl,by omega⟩
 ·refine ⟨_,_,rfl,?_⟩
  split
  ·exact Nat.le_trans (rem_fail _ _ _) (by omega)
  ·omega
def tot (toks : List D) (P : Part) (r : Nat) : Prop:=∀ st,rem toks st <= r -> ∃ x st2,P toks st = some (x,st2) /\ rem toks st2 <= rem toks st
theorem rowL_tot {toks : List D} {P : Part} {r : Nat} (hP : tot toks P r) (bs : List (List UInt8)) : ∀ (f : Nat) (x : D) (st : St),rem toks st <= r -> rem toks st < f -> ∃ y st2,rowL toks P bs f x st = some (y,st2) /\ rem toks st2 <= rem toks st
 | 0,_,_,_,h=>by omega
 | f + 1,x,st,hr,h=>by
  simp only [rowL]
  split
  ·exact ⟨x,st,rfl,Nat.le_refl _⟩
  ·split
   ·exact ⟨x,st,rfl,Nat.le_refl _⟩
   ·rename_i w hw
    have h1:=rem_may (firstP_is hw)
    obtain ⟨y,st2,e,k⟩:=hP (st.1 + 1,st.2) (by omega)
    rw [e]
    obtain ⟨z,st3,e3,k3⟩:=rowL_tot hP bs f (twoD w x y) st2 (by omega) (by omega)
    exact ⟨z,st3,e3,by omega⟩
theorem rowP_tot {toks : List D} {P : Part} {r : Nat} (hP : tot toks P r) (bs : List (List UInt8)) {f : Nat} (hf : r < f) : tot toks (fun toks st=>rowP toks P bs f st) r:=fun st hr=>by
 obtain ⟨x,st1,e,k⟩:=hP st hr
 obtain ⟨y,st2,e2,k2⟩:=rowL_tot hP bs f x st1 (by omega) (by omega)
 refine ⟨y,st2,?_,by omega⟩
 simp only [rowP,e];exact e2
def rank : Lv -> Nat
 | .plain=>1 | .unary=>2 | .prod=>3 | .sum=>4 | .cmp=>5 | .not=>6 | .and=>7 | .expr=>8 | .inner=>10
theorem oneS_tot {op : List UInt8} {toks : List D} {z : Option (D × St)} {n : Nat} (h : ∃ x st2,z = some (x,st2) /\ rem toks st2 <= n) : ∃ x st2,oneS op z = some (x,st2) /\ rem toks st2 <= n:=by
 obtain ⟨x,st2,rfl,k⟩:=h
 exact ⟨_,_,rfl,k⟩
theorem lv_tot (toks : List D) : ∀ (r f : Nat) (lv : Lv),16 * r + rank lv < f -> tot toks (pLv f lv) r:=by
 intro r
 induction r using Nat.strongRecOn with
 | ind r ih =>
 have inn1 : ∀ f st,16 * r + 2 <= f + 1 -> rem toks st <= r -> isP toks st [40] = true -> ∃ x st2,pLv f .inner toks st = some (x,st2) /\ rem toks st2 <= rem toks st:=by
  intro f st hf hr hp
  have h1:=rem_must_lt hp
  cases f with
  | zero=>omega
  | succ f =>
   obtain ⟨x,st2,e,k⟩:=ih (r - 1) (by omega) f .expr (by simp only [rank];omega) (mustP toks [40] st) (by omega)
   refine ⟨x,mustP toks [41] st2,?_,?_⟩
   ·simp only [pLv,e,innS]
   ·have:=rem_must toks [41] st2;omega
 have inn2 : ∀ f st,16 * r + 2 <= f + 1 -> rem toks st < r -> ∃ x st2,pLv f .inner toks st = some (x,st2) /\ rem toks st2 <= rem toks st:=by
  intro f st hf hr
  exact ih (r - 1) (by omega) f .inner (by simp only [rank];omega) st (by omega)
 have hplain : ∀ f,16 * r + 1 < f -> tot toks (pLv f .plain) r:=by
  intro f hf st hr
  cases f with
  | zero=>omega
  | succ f =>
   simp only [pLv,plainP]
   split
   ·exact ⟨_,_,rfl,rem_lit _ _⟩
   split
   ·rename_i h;exact ⟨_,_,rfl,Nat.le_of_lt (rem_may h)⟩
   split
   ·rename_i h;exact inn1 f st (by omega) hr h
   split
   ·rename_i h
    have h1:=rem_may h
    obtain ⟨x,st2,e,k⟩:=bagP_tot toks (f:=f) (fr:=st.1) (st:=(st.1 + 1,st.2)) (by omega)
    exact ⟨x,st2,e,by omega⟩
   split
   ·rename_i h
    have h1:=rem_may h
    refine oneS_tot ?_
    obtain ⟨x,st2,e,k⟩:=inn2 f (st.1 + 1,st.2) (by omega) (by omega)
    exact ⟨x,st2,e,by omega⟩
   split
   ·rename_i h
    refine ⟨_,_,rfl,?_⟩
    have h1:=rem_may h
    have h2:=rem_must toks [40] (st.1 + 1,st.2)
    have h3:=rem_kind toks (k:=3) (by decide) (mustP toks [40] (st.1 + 1,st.2))
    have h4:=rem_must toks [41] (kindP toks 3 (mustP toks [40] (st.1 + 1,st.2))).2
    omega
   split
   ·rename_i h
    refine ⟨_,_,rfl,?_⟩
    have h1:=rem_may h
    have h2:=rem_must toks [40] (st.1 + 1,st.2)
    have h3:=rem_attr toks (mustP toks [40] (st.1 + 1,st.2))
    have h4:=rem_must toks [41] (attrP toks (mustP toks [40] (st.1 + 1,st.2))).2.2
    omega
   ·exact ⟨_,_,rfl,rem_attr _ _⟩
 have hunary : ∀ f,16 * r + 2 < f -> tot toks (pLv f .unary) r:=by
  intro f hf st hr
  cases f with
  | zero=>omega
  | succ f =>
   simp only [pLv]
   split
   ·rename_i h
    have h1:=rem_may h
    refine oneS_tot ?_
    obtain ⟨x,st2,e,k⟩:=ih (r - 1) (by omega) f .unary (by simp only [rank];omega) (st.1 + 1,st.2) (by omega)
    exact ⟨x,st2,e,by omega⟩
   ·exact hplain f (by omega) st hr
 have hprod : ∀ f,16 * r + 3 < f -> tot toks (pLv f .prod) r:=by
  intro f hf
  cases f with
  | zero=>omega
  | succ f=>exact rowP_tot (hunary f (by omega)) [[42]] (by omega)
 have hsum : ∀ f,16 * r + 4 < f -> tot toks (pLv f .sum) r:=by
  intro f hf
  cases f with
  | zero=>omega
  | succ f=>exact rowP_tot (hprod f (by omega)) [[43],[45]] (by omega)
 have hcmp : ∀ f,16 * r + 5 < f -> tot toks (pLv f .cmp) r:=by
  intro f hf st hr
  cases f with
  | zero=>omega
  | succ f =>
   obtain ⟨x,st1,e,k⟩:=hsum f (by omega) st hr
   simp only [pLv,e,cmpS2]
   split
   ·exact ⟨x,st1,rfl,k⟩
   ·rename_i w hw
    have h1:=rem_may (firstP_is hw)
    obtain ⟨y,st2,e2,k2⟩:=hsum f (by omega) (st1.1 + 1,st1.2) (by omega)
    rw [e2]
    exact ⟨_,st2,rfl,by omega⟩
 have hnot : ∀ f,16 * r + 6 < f -> tot toks (pLv f .not) r:=by
  intro f hf st hr
  cases f with
  | zero=>omega
  | succ f =>
   simp only [pLv]
   split
   ·rename_i h
    have h1:=rem_may h
    refine oneS_tot ?_
    obtain ⟨x,st2,e,k⟩:=ih (r - 1) (by omega) f .not (by simp only [rank];omega) (st.1 + 1,st.2) (by omega)
    exact ⟨x,st2,e,by omega⟩
   ·exact hcmp f (by omega) st hr
 have hand : ∀ f,16 * r + 7 < f -> tot toks (pLv f .and) r:=by
  intro f hf
  cases f with
  | zero=>omega
  | succ f=>exact rowP_tot (hnot f (by omega)) [wAnd] (by omega)
 have hexpr : ∀ f,16 * r + 8 < f -> tot toks (pLv f .expr) r:=by
  intro f hf
  cases f with
  | zero=>omega
  | succ f=>exact rowP_tot (hand f (by omega)) [wOr] (by omega)
 have hinner : ∀ f,16 * r + 10 < f -> tot toks (pLv f .inner) r:=by
  intro f hf st hr
  cases f with
  | zero=>omega
  | succ f =>
   have h1:=rem_must toks [40] st
   obtain ⟨x,st2,e,k⟩:=hexpr f (by omega) (mustP toks [40] st) (by omega)
   refine ⟨x,mustP toks [41] st2,by simp only [pLv,e,innS],?_⟩
   have:=rem_must toks [41] st2;omega
 intro f lv hf
 cases lv <;> simp only [rank] at hf
 ·exact hexpr f hf
 ·exact hand f hf
 ·exact hnot f hf
 ·exact hcmp f hf
 ·exact hsum f hf
 ·exact hprod f hf
 ·exact hunary f hf
 ·exact hplain f hf
 ·exact hinner f hf
theorem expr_tot (toks : List D) (h : toks.length <= 600) : ∃ x st,pLv 10000 .expr toks (0,0) = some (x,st):=by
 obtain ⟨x,st,e,_⟩:=lv_tot toks 600 10000 .expr (by simp only [rank];omega) (0,0) (by simp only [rem];simp;omega)
 exact ⟨x,st,e⟩
end GP
namespace GP
open Go Go.Proofs
set_option maxRecDepth 100000
def isVr (x : D) : Prop:=x.isV = true /\ -(2 ^ 63) <= vi x /\ vi x < 2 ^ 63
def mkE (op : List UInt8) (k i : Int) (s : List UInt8) (nl : Bool) (l : List D) (who name : List UInt8) (m : Bool) (ps : List D) : D :=
 .agg [.str op,.int .i64 k,.int .i64 i,.str s,sliceD nl l,.str who,.str name,sliceD m ps]
def isE : Nat -> D -> Prop
 | 0,_=>False
 | n + 1,d=>∃ op k i s nl l who name m ps,d = mkE op k i s nl l who name m ps /\ op.length <= 2 ^ 47 /\ who.length <= 2 ^ 47 /\ name.length <= 2 ^ 47 /\ isVr (mkV k i s nl l) /\ ps.length <= 2 ^ 47 /\ ∀ x ∈ ps,isE n x
theorem mkV_erase {k i : Int} {s : List UInt8} {nl : Bool} {l : List D} (h : (mkV k i s nl l).isV = true) : D.eraseL l = l /\ s.length <= 2 ^ 47 /\ l.length <= 2 ^ 47 /\ ∀ x ∈ l,x.isV = true:=by
 obtain ⟨k',i',s',n',l',e,h1,h2,h3⟩:=isV_elim h
 have e1:=congrArg vs e
 have e2:=congrArg vl e
 simp only [vs_mk,vl_mk] at e1 e2
 subst e1;subst e2
 exact ⟨erase_of_isV h3,h1,h2,h3⟩
theorem isE_mono : ∀ {n : Nat} {d : D},isE n d -> isE (n + 1) d
 | 0,_,h=>h.elim
 | _ + 1,_,⟨op,k,i,s,nl,l,who,name,m,ps,e,h1,h2,h3,h4,h5,h6⟩=>⟨op,k,i,s,nl,l,who,name,m,ps,e,h1,h2,h3,h4,h5,fun x hx=>isE_mono (h6 x hx)⟩
theorem isE_erase : ∀ {n : Nat} {d : D},isE n d -> d.erase = d
 | 0,_,h=>h.elim
 | n + 1,d,⟨op,k,i,s,nl,l,who,name,m,ps,e,h1,h2,h3,h4,h5,h6⟩=>by
  subst e
  have hp : D.eraseL ps = ps:=by
   rw [eraseL_map]
   exact (List.map_congr_left fun x hx=>isE_erase (h6 x hx)).trans (List.map_id'' (fun _=>rfl) ps)
  simp [mkE,D.erase,D.eraseL,erase_sliceD,(mkV_erase h4.1).1,hp]
theorem isE_cells {n : Nat} {d : D} (h : isE n d) : d.cells.length = 8 /\ d.cells.take 8 = d.cells /\ D.agg d.cells = d /\ d.okc = true:=by
 cases n with
 | zero=>exact h.elim
 | succ n =>
  obtain ⟨op,k,i,s,nl,l,who,name,m,ps,rfl,_⟩:=h
  exact ⟨rfl,rfl,rfl,rfl⟩
def eop : D -> List UInt8
 | .agg (.str s :: _)=>s
 | _=>[]
def eV : D -> D
 | .agg (_ :: a :: b :: c :: d :: _)=>.agg [a,b,c,d]
 | _=>.top
def ewho : D -> List UInt8
 | .agg (_ :: _ :: _ :: _ :: _ :: .str s :: _)=>s
 | _=>[]
def ename : D -> List UInt8
 | .agg (_ :: _ :: _ :: _ :: _ :: _ :: .str s :: _)=>s
 | _=>[]
def eps : D -> List D
 | .agg (_ :: _ :: _ :: _ :: _ :: _ :: _ :: l :: _)=>elems l
 | _=>[]
section
variable (op : List UInt8) (k i : Int) (s : List UInt8) (nl : Bool) (l : List D) (who name : List UInt8) (m : Bool) (ps : List D)
theorem eop_mk : eop (mkE op k i s nl l who name m ps) = op:=rfl
theorem eV_mk : eV (mkE op k i s nl l who name m ps) = mkV k i s nl l:=rfl
theorem ewho_mk : ewho (mkE op k i s nl l who name m ps) = who:=rfl
theorem ename_mk : ename (mkE op k i s nl l who name m ps) = name:=rfl
theorem eps_mk : eps (mkE op k i s nl l who name m ps) = ps:=by simp only [eps,mkE,elems_sliceD]
end
def mkF (who name : List UInt8) (kind : Int) (bag : Bool) : D:=.agg [.str who,.str name,.int .i64 kind,.bool bag]
def isF (d : D) : Prop:=∃ who name kind bag,d = mkF who name kind bag /\ who.length <= 2 ^ 47 /\ name.length <= 2 ^ 47 /\ -(2 ^ 63) <= kind /\ kind < 2 ^ 63
def fwho : D -> List UInt8
 | .agg (.str s :: _)=>s
 | _=>[]
def fname : D -> List UInt8
 | .agg (_ :: .str s :: _)=>s
 | _=>[]
def fkind : D -> Int
 | .agg (_ :: _ :: .int _ k :: _)=>k
 | _=>0
def sVal : List UInt8:=[118,97,108,117,101]
def sNow : List UInt8:=[110,111,119]
def sAttr : List UInt8:=[97,116,116,114]
def sHas : List UInt8:=[104,97,115]
def sRole : List UInt8:=[114,111,108,101]
def sNot : List UInt8:=[110,111,116]
def sNeg : List UInt8:=[110,101,103]
def sSize : List UInt8:=[115,105,122,101]
def sIn : List UInt8:=[105,110]
theorem isE_elim {n : Nat} {d : D} (h : isE n d) : ∃ op k i s nl l who name m ps,d = mkE op k i s nl l who name m ps /\ op.length <= 2 ^ 47 /\ who.length <= 2 ^ 47 /\ name.length <= 2 ^ 47 /\ isVr (mkV k i s nl l) /\ ps.length <= 2 ^ 47 /\ (∀ x ∈ ps,isE (n - 1) x) /\ D.eraseL l = l /\ D.eraseL ps = ps:=by
 cases n with
 | zero=>exact h.elim
 | succ n =>
  obtain ⟨op,k,i,s,nl,l,who,name,m,ps,rfl,h1,h2,h3,h4,h5,h6⟩:=h
  exact ⟨op,k,i,s,nl,l,who,name,m,ps,rfl,h1,h2,h3,h4,h5,h6,(mkV_erase h4.1).1,eraseL_id fun x hx=>isE_erase (h6 x hx)⟩
end GP
namespace GP
open Go Go.Proofs
set_option maxRecDepth 100000
def szL (f : D -> Int -> Int) : List D -> Int -> Int -> Int
 | [],_,n=>n
 | x :: l,m,n=>if decide (n <= m) then szL f l m (IntKind.i64.wrap (n + f x (IntKind.i64.wrap (m - n)))) else n
def sizeE : Nat -> D -> Int -> Int
 | 0,_,_=>0
 | n + 1,e,m=>szL (sizeE n) (eps e) m 1
theorem szL_step {f : D -> Int -> Int} {l : List D} {j : Nat} {x : D} (hx : l[j]? = some x) {m n : Int} (h : decide (n <= m) = true) : szL f (l.drop j) m n = szL f (l.drop (j + 1)) m (IntKind.i64.wrap (n + f x (IntKind.i64.wrap (m - n)))):=by
 have hj : j < l.length:=by
  rcases Nat.lt_or_ge j l.length with h' | h'
  ·exact h'
  ·rw [List.getElem?_eq_none h'] at hx;cases hx
 have : l[j] = x:=by simpa [hj] using hx
 rw [List.drop_eq_getElem_cons hj,szL,h,this];rfl
theorem szL_stop {f : D -> Int -> Int} (l : List D) {m n : Int} (h : decide (n <= m) = false) : szL f l m n = n:=by
 cases l with
 | nil=>rfl
 | cons x l=>rw [szL,h];rfl
open Classical in
noncomputable def φsizeE (n : Nat) : List D -> Option D
 | [e,.int .i64 m]=>if isE n e then some (.int .i64 (sizeE n e m)) else none
 | _=>none
set_option maxHeartbeats 2000000 in
theorem ok39 [HasG Tryz.prog] : ∀ n,OkAt Tryz.prog 39 (φsizeE n)
 | 0=>fun args r h=>by
  unfold φsizeE at h
  split at h
  ·split at h
   ·rename_i h';exact h'.elim
   ·cases h
  ·cases h
 | n + 1=>by
  refine ok_of (l:=[(39,φsizeE n)]) (.cons (ok39 n) .nil) fn39 fun args r h=>?_
  unfold φsizeE at h
  split at h
  ·rename_i e mm
   split at h
   ·rename_i he
    injection h with h;subst h
    refine ⟨by simp,by simp [D.cl],fun H T=>?_⟩
    obtain ⟨op,k,i,t,nl,l,who,name,m,ps,rfl,h1,h2,h3,h4,h5,h6,eL,eP⟩:=isE_elim he
    have h6 : ∀ x ∈ ps,isE n x:=h6
    simp only [sizeE,eps_mk]
    simp +contextual (maxSteps:=10000000) only [c39,mkE,eL,eP,go_sem]
    refine W_for (fun j s'=>s'.t 1 = .int .i64 mm /\ s'.t 2 = .ptr H.length 0 /\ (∃ a,s'.t 5 = .int .i64 a /\ szL (sizeE n) (ps.drop j) mm a = szL (sizeE n) ps mm 1) /\ s'.t 6 = .int .i64 j /\ s'.H = H ++ [.row [.str op,.int .i64 k,.int .i64 i,.str t,sliceD nl l,.str who,.str name,sliceD m ps]] /\ s'.T = T /\ j <= ps.length) ps.length ⟨0,by simp [upd,argT]⟩ (fun i s h=>h.2.2.2.2.2.2) ?_ (XL_mono _)
    rintro j ⟨t',B,T'⟩ ⟨r1,r2,⟨a,r5,hc⟩,r6,rfl,rfl,hj⟩
    simp only at r1 r2 r5 r6
    by_cases ha : j < ps.length
    ·have d1 : decide ((j : Int) < ps.length) = true:=by simpa using ha
     have hx:=h6 _ (List.getElem_mem ha)
     have ex : ps[j]? = some ps[j]:=by simp [ha]
     generalize ps[j] = x at *
     have ee:=isE_erase hx
     obtain ⟨q1,q2,q3,q4⟩:=isE_cells hx
     have px : ∀ r,φsizeE n [x,.int .i64 r] = some (.int .i64 (sizeE n x r)):=fun r=>by simp only [φsizeE];rw [if_pos hx]
     cases d2 : decide (a <= mm) with
     | true =>
      rw [szL_step ex d2] at hc
      simp +contextual (maxSteps:=10000000) only [r1,r2,r5,r6,d1,d2,ex,ee,q1,q2,q3,q4,px,wrap_succ j (by omega),go_sem]
      exact ⟨⟨_,rfl,hc⟩,by omega⟩
     | false =>
      rw [szL_stop _ d2] at hc
      have d2':=d2
      rw [hc] at d2'
      simp +contextual (maxSteps:=10000000) only [r1,r2,r5,r6,d1,d2',hc,go_sem]
    ·have d1 : decide ((j : Int) < ps.length) = false:=by simpa using ha
     have : j = ps.length:=by omega
     subst this
     rw [List.drop_length] at hc
     have hc' : a = szL (sizeE n) ps mm 1:=hc
     simp +contextual (maxSteps:=10000000) only [r1,r2,r5,r6,d1,hc',go_sem]
   ·cases h
  ·cases h
def big (l : List UInt8) : Bool:=decide ((200 : Int) < l.length)
def shortE : Nat -> D -> Bool
 | 0,_=>false
 | n + 1,e=>!(big (eop e)) && !(big (ewho e)) && !(big (ename e)) && fewB [eV e] 1 && (eps e).all (shortE n)
open Classical in
noncomputable def φshort (n : Nat) : List D -> Option D
 | [e]=>if isE n e then some (.bool (shortE n e)) else none
 | _=>none
theorem few_one {v : D} (h : isVr v) : φFew [.sl none [v],.int .i64 1] = some (.bool (fewB [v] 1)):=by
 simp only [φFew]
 rw [if_pos ⟨rfl,by simp [elems,D.isVs,h.1],by simp [elems]⟩]
 rfl
set_option maxHeartbeats 2000000 in
theorem ok63 [HasG Tryz.prog] : ∀ n,OkAt Tryz.prog 63 (φshort n)
 | 0=>fun args r h=>by
  unfold φshort at h
  split at h
  ·split at h
   ·rename_i h';exact h'.elim
   ·cases h
  ·cases h
 | n + 1=>by
  refine ok_of (l:=[(111,φFew),(63,φshort n)]) (.cons ok111 (.cons (ok63 n) .nil)) fn63 fun args r h=>?_
  unfold φshort at h
  split at h
  ·rename_i e
   split at h
   ·rename_i he
    injection h with h;subst h
    refine ⟨by simp,by simp [D.cl],fun H T=>?_⟩
    obtain ⟨op,k,i,t,nl,l,who,name,m,ps,rfl,h1,h2,h3,h4,h5,h6,eL,eP⟩:=isE_elim he
    have h6 : ∀ x ∈ ps,isE n x:=h6
    simp only [shortE,eps_mk,eop_mk,ewho_mk,ename_mk,eV_mk]
    simp only [big]
    have pf:=few_one h4
    obtain ⟨fb,hq⟩ : ∃ z,fewB [mkV k i t nl l] 1 = z:=⟨_,rfl⟩
    simp only [hq] at pf ⊢
    clear hq
    simp only [mkV] at pf
    have pf' : ∀ tk,φFew (D.eraseL [.sl tk [.agg [.int .i64 k,.int .i64 i,.str t,sliceD nl l]],.int .i64 1]) = some (.bool fb):=fun tk=>by simp only [D.eraseL,D.erase,erase_sliceD,eL,pf]
    cases g1 : decide ((200 : Int) < op.length) with
    | true=>simp +contextual (maxSteps:=10000000) only [c63,mkE,eL,eP,g1,go_sem]
    | false =>
    cases g2 : decide ((200 : Int) < who.length) with
    | true=>simp +contextual (maxSteps:=10000000) only [c63,mkE,eL,eP,g1,g2,go_sem]
    | false =>
    cases g3 : decide ((200 : Int) < name.length) with
    | true=>simp +contextual (maxSteps:=10000000) only [c63,mkE,eL,eP,g1,g2,g3,go_sem]
    | false =>
    cases fb with
    | false=>simp +contextual (maxSteps:=10000000) only [c63,mkE,eL,eP,g1,g2,g3,pf,go_sem]
    | true =>
    simp +contextual (maxSteps:=10000000) only [c63,mkE,eL,eP,g1,g2,g3,pf,go_sem]
    refine W_for (fun j s'=>s'.t 1 = .ptr H.length 0 /\ s'.t 3 = .int .i64 j /\ s'.H = H ++ [.row [.str op,.int .i64 k,.int .i64 i,.str t,sliceD nl l,.str who,.str name,sliceD m ps]] /\ ExtT T s'.T /\ j <= ps.length /\ (ps.take j).all (shortE n) = true) ps.length ⟨0,by simp [upd,argT,extT_self,extT_of]⟩ (fun i s h=>h.2.2.2.2.1) ?_ (XL_mono _)
    rintro j ⟨t',B,T'⟩ ⟨r1,r3,rfl,hT,hj,hc⟩
    simp only at r1 r3 hT
    by_cases ha : j < ps.length
    ·have d1 : decide ((j : Int) < ps.length) = true:=by simpa using ha
     have hx:=h6 _ (List.getElem_mem ha)
     have ex : ps[j]? = some ps[j]:=by simp [ha]
     have nx:=fun hp=>all_nx' (p:=shortE n) ex hc hp
     have no:=fun hp=>all_no' (p:=shortE n) ex hp
     generalize ps[j] = x at *
     have ee:=isE_erase hx
     obtain ⟨q1,q2,q3,q4⟩:=isE_cells hx
     have px : φshort n [x] = some (.bool (shortE n x)):=by simp only [φshort];rw [if_pos hx]
     obtain ⟨b,hq⟩ : ∃ z,shortE n x = z:=⟨_,rfl⟩
     simp only [hq] at px nx no
     clear hq
     cases b with
     | true =>
      have nx:=nx rfl
      simp +contextual (maxSteps:=10000000) only [r1,r3,hT.t,leaves_E (Ext.of H _) hT,d1,ex,ee,q1,q2,q3,q4,px,wrap_succ j (by omega),go_sem]
      exact ⟨by omega,nx⟩
     | false =>
      have no:=no rfl
      simp +contextual (maxSteps:=10000000) only [r1,r3,hT.t,leaves_E (Ext.of H _) hT,d1,ex,ee,q1,q2,q3,q4,px,no,go_sem]
    ·have d1 : decide ((j : Int) < ps.length) = false:=by simpa using ha
     have : j = ps.length:=by omega
     subst this
     rw [List.take_length] at hc
     simp +contextual (maxSteps:=10000000) only [r1,r3,hT.t,leaves_E (Ext.of H _) hT,d1,hc,go_sem]
   ·cases h
  ·cases h
def fewEx (n : Nat) (e : D) : Bool:=decide (sizeE n e 60 <= 60) && shortE n e
open Classical in
noncomputable def φfewE (n : Nat) : List D -> Option D
 | [e]=>if isE n e then some (.bool (fewEx n e)) else none
 | _=>none
theorem ok25 [HasG Tryz.prog] (n : Nat) : OkAt Tryz.prog 25 (φfewE n):=by
 refine ok_of (l:=[(39,φsizeE n),(63,φshort n)]) (.cons (ok39 n) (.cons (ok63 n) .nil)) fn25 fun args r h=>?_
 unfold φfewE at h
 split at h
 ·rename_i e
  split at h
  ·rename_i he
   injection h with h;subst h
   refine ⟨by simp,by simp [D.cl],fun H T=>?_⟩
   have ee:=isE_erase he
   obtain ⟨q1,q2,q3,q4⟩:=isE_cells he
   have p1 : φsizeE n [e,.int .i64 60] = some (.int .i64 (sizeE n e 60)):=by simp only [φsizeE];rw [if_pos he]
   have p2 : φshort n [e] = some (.bool (shortE n e)):=by simp only [φshort];rw [if_pos he]
   simp only [fewEx]
   simp +contextual (maxSteps:=10000000) only [c25,ee,q1,q2,q3,q4,p1,p2,go_sem]
   (all_goals ((repeat' (first | apply And.intro | intro _)) <;> (first | rfl | omega | (simp_all;done) | grind)))
  ·cases h
 ·cases h
end GP
namespace GP
open Go Go.Proofs
set_option maxRecDepth 100000
def mxd (f : D -> Nat) (l : List D) : Nat:=l.foldl (fun a x=>max a (f x)) 0
theorem mxd_step {f : D -> Nat} {l : List D} {j : Nat} {x : D} (h : l[j]? = some x) : mxd f (l.take (j + 1)) = max (mxd f (l.take j)) (f x):=by
 rw [List.take_add_one,h];simp [mxd,List.foldl_append]
theorem mxd_le {f : D -> Nat} {b : Nat} : ∀ {l : List D},(∀ x ∈ l,f x <= b) -> mxd f l <= b:=by
 have key : ∀ (l : List D) (a : Nat),a <= b -> (∀ x ∈ l,f x <= b) -> l.foldl (fun a x=>max a (f x)) a <= b:=by
  intro l
  induction l with
  | nil=>intro a h _;exact h
  | cons x l ih =>
   intro a h hx
   exact ih (max a (f x)) (by have:=hx x (by simp);omega) fun y hy=>hx y (by simp [hy])
 intro l h
 exact key l 0 (by omega) h
def dpt : Nat -> D -> Nat
 | 0,_=>0
 | n + 1,e=>mxd (dpt n) (eps e) + 1
theorem dpt_le : ∀ (n : Nat) (e : D),dpt n e <= n
 | 0,_=>Nat.le_refl _
 | n + 1,e=>by
  simp only [dpt]
  have:=mxd_le (f:=dpt n) (b:=n) (l:=eps e) fun x _=>dpt_le n x
  omega
open Classical in
noncomputable def φdpt (n : Nat) : List D -> Option D
 | [e]=>if isE n e then some (.int .i64 ((dpt n e : Nat) : Int)) else none
 | _=>none
set_option maxHeartbeats 2000000 in
theorem ok26 : ∀ n,n <= 2 ^ 40 -> OkAt Tryz.prog 26 (φdpt n)
 | 0,_=>fun args r h=>by
  unfold φdpt at h
  split at h
  ·split at h
   ·rename_i h';exact h'.elim
   ·cases h
  ·cases h
 | n + 1,hn=>by
  refine ok_of (l:=[(26,φdpt n)]) (.cons (ok26 n (by omega)) .nil) fn26 fun args r h=>?_
  unfold φdpt at h
  split at h
  ·rename_i e
   split at h
   ·rename_i he
    injection h with h;subst h
    refine ⟨by simp,by simp [D.cl],fun H T=>?_⟩
    obtain ⟨op,k,i,t,nl,l,who,name,m,ps,rfl,h1,h2,h3,h4,h5,h6,eL,eP⟩:=isE_elim he
    have h6 : ∀ x ∈ ps,isE n x:=h6
    simp only [dpt,eps_mk]
    simp +contextual (maxSteps:=10000000) only [c26,mkE,eL,eP,go_sem]
    refine W_for (fun j s'=>s'.t 3 = .int .i64 ((mxd (dpt n) (ps.take j) : Nat) : Int) /\ s'.t 7 = sliceD m ps /\ s'.t 8 = .int .i64 ps.length /\ s'.t 9 = .int .i64 j /\ Ext H s'.H /\ s'.T = T /\ j <= ps.length) ps.length ⟨0,by simp [upd,argT,ext_of,mxd]⟩ (fun i s h=>h.2.2.2.2.2.2) ?_ (XL_mono _)
    rintro j ⟨t',B,T'⟩ ⟨r3,r7,r8,r9,hE,rfl,hj⟩
    simp only at r3 r7 r8 r9 hE
    have hb:=mxd_le (f:=dpt n) (b:=n) (l:=ps.take j) fun x _=>dpt_le n x
    by_cases ha : j < ps.length
    ·have d1 : decide ((j : Int) < ps.length) = true:=by simpa using ha
     have hx:=h6 _ (List.getElem_mem ha)
     have ex : ps[j]? = some ps[j]:=by simp [ha]
     have hs:=mxd_step (f:=dpt n) ex
     generalize ps[j] = x at *
     have ee:=isE_erase hx
     obtain ⟨q1,q2,q3,q4⟩:=isE_cells hx
     have px : φdpt n [x] = some (.int .i64 ((dpt n x : Nat) : Int)):=by simp only [φdpt];rw [if_pos hx]
     rw [hs]
     simp +contextual (maxSteps:=10000000) only [r3,r7,r8,r9,d1,ex,ee,q1,q2,q3,q4,px,wrap_succ j (by omega),hE.ta,go_sem]
     refine ⟨?_,by omega⟩
     split <;> (congr 1;omega)
    ·have d1 : decide ((j : Int) < ps.length) = false:=by simpa using ha
     have : j = ps.length:=by omega
     subst this
     rw [List.take_length] at r3 hb
     have w : IntKind.i64.wrap (((mxd (dpt n) ps : Nat) : Int) + 1) = ((mxd (dpt n) ps + 1 : Nat) : Int):=by
      rw [show ((mxd (dpt n) ps : Nat) : Int) + 1 = ((mxd (dpt n) ps + 1 : Nat) : Int) by omega];exact wrap_of _ (by omega) (by omega)
     simp +contextual (maxSteps:=10000000) only [r3,r7,r8,r9,d1,w,leaves_E hE (ExtT.refl _),go_sem]
   ·cases h
  ·cases h
set_option maxHeartbeats 2000000 in
theorem ok22 : ∀ n,n <= 2 ^ 40 -> OkAt Tryz.prog 22 (φdpt n)
 | 0,_=>fun args r h=>by
  unfold φdpt at h
  split at h
  ·split at h
   ·rename_i h';exact h'.elim
   ·cases h
  ·cases h
 | n + 1,hn=>by
  refine ok_of (l:=[(22,φdpt n)]) (.cons (ok22 n (by omega)) .nil) fn22 fun args r h=>?_
  unfold φdpt at h
  split at h
  ·rename_i e
   split at h
   ·rename_i he
    injection h with h;subst h
    refine ⟨by simp,by simp [D.cl],fun H T=>?_⟩
    obtain ⟨op,k,i,t,nl,l,who,name,m,ps,rfl,h1,h2,h3,h4,h5,h6,eL,eP⟩:=isE_elim he
    have h6 : ∀ x ∈ ps,isE n x:=h6
    simp only [dpt,eps_mk]
    simp +contextual (maxSteps:=10000000) only [c22,mkE,eL,eP,go_sem]
    refine W_for (fun j s'=>s'.t 1 = .ptr H.length 0 /\ s'.t 3 = .int .i64 ((mxd (dpt n) (ps.take j) + 1 : Nat) : Int) /\ s'.t 4 = .int .i64 j /\ s'.H = H ++ [.row [.str op,.int .i64 k,.int .i64 i,.str t,sliceD nl l,.str who,.str name,sliceD m ps]] /\ s'.T = T /\ j <= ps.length) ps.length ⟨0,by simp [upd,argT,mxd]⟩ (fun i s h=>h.2.2.2.2.2) ?_ (XL_mono _)
    rintro j ⟨t',B,T'⟩ ⟨r1,r3,r4,rfl,rfl,hj⟩
    simp only at r1 r3 r4
    have hb:=mxd_le (f:=dpt n) (b:=n) (l:=ps.take j) fun x _=>dpt_le n x
    by_cases ha : j < ps.length
    ·have d1 : decide ((j : Int) < ps.length) = true:=by simpa using ha
     have hx:=h6 _ (List.getElem_mem ha)
     have ex : ps[j]? = some ps[j]:=by simp [ha]
     have hs:=mxd_step (f:=dpt n) ex
     generalize ps[j] = x at *
     have hd:=dpt_le n x
     have ee:=isE_erase hx
     obtain ⟨q1,q2,q3,q4⟩:=isE_cells hx
     have px : φdpt n [x] = some (.int .i64 ((dpt n x : Nat) : Int)):=by simp only [φdpt];rw [if_pos hx]
     have w : IntKind.i64.wrap (1 + ((dpt n x : Nat) : Int)) = ((dpt n x + 1 : Nat) : Int):=by
      rw [show 1 + ((dpt n x : Nat) : Int) = ((dpt n x + 1 : Nat) : Int) by omega];exact wrap_of _ (by omega) (by omega)
     rw [hs]
     simp +contextual (maxSteps:=10000000) only [r1,r3,r4,d1,ex,ee,q1,q2,q3,q4,px,wrap_succ j (by omega),w,go_sem]
     refine ⟨?_,by omega⟩
     split <;> (congr 1;omega)
    ·have d1 : decide ((j : Int) < ps.length) = false:=by simpa using ha
     have : j = ps.length:=by omega
     subst this
     rw [List.take_length] at r3 hb
     simp +contextual (maxSteps:=10000000) only [r1,r3,r4,d1,go_sem]
   ·cases h
  ·cases h
end GP
