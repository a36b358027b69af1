import Derived.Test.YtainhmbnbgonhaaGreatDoorM11
set_option linter.unusedSimpArgs false
namespace GP
open Go Go.Proofs
set_option maxRecDepth 100000
section
variable {P : Program} [HasG P]
def φOwn (z : Nat) (f : List D -> Option (List D)) : Hp -> Tk -> List D -> Option (D × Hp × Tk):=fun H T a=>match f a with
 | some xs=>some (.sl (some T.length) xs,H,T ++ [some (xs.length,z)])
 | none=>none
theorem okOwn_of {X : Pred} (hX : ∀ f args H T Q Q',(∀ r H T,Q r H T -> Q' r H T) -> X f args H T Q -> Snd P f args H T Q') {f : FuncId} {n : Nat} {rs : List (Sum Nat (Nat × Bool × Nat))} {cc : C} (hf : Fn P f n rs cc) {z : Nat} {φ : List D -> Option (List D)}
  (h : ∀ args xs,φ args = some xs -> args.length <= n /\ D.clL 0 0 xs = true /\ ∀ H T,W X cc (endQ rs (LeavesG H T (.sl (some T.length) xs) H (T ++ [some (xs.length,z)]))) ⟨argT args,H,T⟩) : OkAtG P f (φOwn z φ):=by
 refine okG_of hX hf fun H T args r H1 T1 hr=>?_
 unfold φOwn at hr
 split at hr
 ·rename_i xs hx
  injection hr with hr;injection hr with h1 hr;injection hr with h2 h3
  subst h1;subst h2;subst h3
  obtain ⟨k1,k2,k3⟩:=h args xs hx
  refine ⟨k1,?_,Closed.refl' _ _,k3 H T⟩
  simp only [D.cl,Bool.and_eq_true,decide_eq_true_eq]
  exact ⟨by simp,D.clL_mono (Nat.zero_le _) (Nat.zero_le _) xs k2⟩
 ·cases hr
end
def tC : D:=mkT 5 [44] 0
def litT1 (v : D) : List D :=
 if vk v == 1 then (if vi v == 1 then [mkT 1 wTrue 0] else [mkT 1 wFalse 0]) else
 if vk v == 2 then (if decide (vi v < 0) then [mkT 5 [45] 0,mkT 2 [] (IntKind.i64.wrap (0 - vi v))] else [mkT 2 [] (vi v)]) else
 if vk v == 3 then [mkT 3 (vs v) 0] else [mkT 4 [] (vi v)]
def leaf1 (v : D) : Bool:=(vk v == 1) || (vk v == 2) || (vk v == 3) || (vk v == 4)
def cmL (f : D -> List D) (l : List D) : List D:=((l.map fun x=>tC :: f x).flatten).drop 1
theorem cmL_step {f : D -> List D} {l : List D} {j : Nat} {x : D} (h : l[j]? = some x) : cmL f (l.take (j + 1)) = cmL f (l.take j) ++ (if 0 < j then [tC] else []) ++ f x:=by
 have hj:=lt_of_get h
 simp only [cmL]
 rw [List.take_add_one,h]
 simp only [Option.toList_some,List.map_append,List.map_cons,List.map_nil,List.flatten_append,List.flatten_cons,List.flatten_nil,List.append_nil]
 cases j with
 | zero=>simp
 | succ j =>
  rw [if_pos (by omega),List.drop_append_of_le_length,List.append_assoc]
  ·rfl
  ·cases l with
   | nil=>simp at hj
   | cons a l=>simp
theorem cmL_le {f : D -> List D} {b : Nat} (l : List D) (h : ∀ x ∈ l,(f x).length <= b) : (cmL f l).length <= (b + 1) * l.length:=by
 have key : ∀ l : List D,(∀ x ∈ l,(f x).length <= b) -> ((l.map fun x=>tC :: f x).flatten).length <= (b + 1) * l.length:=by
  intro l
  induction l with
  | nil=>intro _;simp
  | cons x l ih =>
   intro h
   have h1:=h x (by simp)
   have h2:=ih fun y hy=>h y (by simp [hy])
   simp only [List.map_cons,List.flatten_cons,List.length_append,List.length_cons] at h2 ⊢
   rw [Nat.mul_add];omega
 have:=key l h
 simp only [cmL,List.length_drop];omega
theorem litT1_le (v : D) : (litT1 v).length <= 2:=by unfold litT1;(repeat' split) <;> simp
def litT (v : D) : List D:=if leaf1 v then litT1 v else mkT 5 [91] 0 :: (cmL litT1 (vl v) ++ [mkT 5 [93] 0])
theorem litT1_tok (v : D) : ∀ x ∈ litT1 v,∃ k s n,x = mkT k s n:=by
 intro x hx
 unfold litT1 at hx
 (repeat' split at hx) <;> simp only [List.mem_cons,List.not_mem_nil,or_false] at hx <;> first | exact ⟨_,_,_,hx⟩ | (rcases hx with hx | hx <;> exact ⟨_,_,_,hx⟩)
theorem cmL_mem {f : D -> List D} {l : List D} {x : D} (h : x ∈ cmL f l) : x = tC ∨ ∃ y ∈ l,x ∈ f y:=by
 have h:=List.mem_of_mem_drop h
 simp only [List.mem_flatten,List.mem_map] at h
 obtain ⟨_,⟨y,hy,rfl⟩,hx⟩:=h
 rcases List.mem_cons.1 hx with rfl | hx
 ·exact .inl rfl
 ·exact .inr ⟨y,hy,hx⟩
theorem litT_tok (v : D) : ∀ x ∈ litT v,∃ k s n,x = mkT k s n:=by
 intro x hx
 unfold litT at hx
 split at hx
 ·exact litT1_tok v x hx
 ·simp only [List.mem_cons,List.mem_append,List.not_mem_nil,or_false] at hx
  rcases hx with rfl | hx | rfl
  ·exact ⟨_,_,_,rfl⟩
  ·rcases cmL_mem hx with rfl | ⟨y,_,hy⟩
   ·exact ⟨_,_,_,rfl⟩
   ·exact litT1_tok y x hy
  ·exact ⟨_,_,_,rfl⟩
def isTks (l : List D) : Prop:=∀ x ∈ l,∃ k s n,x = mkT k s n
theorem isTks.fit {l : List D} (h : isTks l) : l.all (fit 3) = true:=List.all_eq_true.2 fun x hx=>by
 obtain ⟨k,s,n,rfl⟩:=h x hx;rfl
theorem isTks.cl {l : List D} (h : isTks l) (i j : Nat) : D.clL i j l = true:=clL_of fun x hx=>by
 obtain ⟨k,s,n,rfl⟩:=h x hx;simp [mkT,D.cl,D.clL]
theorem isTks.erase {l : List D} (h : isTks l) : D.eraseL l = l:=eraseL_id fun x hx=>by
 obtain ⟨k,s,n,rfl⟩:=h x hx;simp [mkT,D.erase,D.eraseL]
theorem isTks.app {l m : List D} (h : isTks l) (k : isTks m) : isTks (l ++ m):=fun x hx=>by
 rcases List.mem_append.1 hx with h' | h'
 ·exact h x h'
 ·exact k x h'
theorem isTks.cons {l : List D} (k : Int) (s : List UInt8) (n : Int) (h : isTks l) : isTks (mkT k s n :: l):=fun x hx=>by
 rcases List.mem_cons.1 hx with rfl | h'
 ·exact ⟨_,_,_,rfl⟩
 ·exact h x h'
theorem isTks.nil : isTks []:=fun _ h=>by cases h
def φlit1 : List D -> Option (List D)
 | [v]=>if v.isV = true /\ leaf1 v = true then some (litT1 v) else none
 | _=>none
set_option maxHeartbeats 2000000 in
theorem ok58a : OkAtG Tryz.prog 58 (φOwn 3 φlit1):=by
 refine okOwn_of (X:=XG Tryz.prog [] [(59,φtk1 1),(60,φtk1 5)] [] [] []) (XG.X (.cons ok59 (.cons ok60 .nil)) .nil .nil .nil) fn58 fun args xs h=>?_
 have hM : MonoH []:=.nil
 unfold φlit1 at h
 split at h
 ·rename_i v
  split at h
  ·rename_i hc
   obtain ⟨hv,hl⟩:=hc
   injection h with h;subst h
   refine ⟨by simp,isTks.cl (litT1_tok v) _ _,fun H T=>?_⟩
   obtain ⟨k,i,s,nl,l,rfl,z,y,hV⟩:=isV_elim hv
   have eL:=erase_of_isV hV
   simp only [leaf1,litT1,vk_mk,vi_mk,vs_mk] at hl ⊢
   have fin : ∀ (ys : List D) (B : Hp),isTks ys -> Ext H B -> LeavesG H T (.sl (some T.length) ys) H (T ++ [some (ys.length,3)]) (.sl (some T.length) ys) B (T ++ [some (ys.length,3)]):=fun ys B hy hB =>
    leavesG_own hB (ExtT.of _ _) (hy.cl _ _) (Nat.le_refl _) (by simp)
   rcases tf (k == 1) with g1 | g1
   ·rw [if_pos g1]
    rcases tf (i == 1) with g | g
    ·rw [if_pos g]
     simp +contextual (maxSteps:=10000000) only [c58,mkV,eL,g1,g,φtk1,pcallG hM,mkT,wTrue,go_sem]
     exact fin [_] _ (isTks.cons _ _ _ .nil) (Ext.of _ _)
    ·rw [if_neg (by rw [g];decide)]
     simp +contextual (maxSteps:=10000000) only [c58,mkV,eL,g1,g,φtk1,pcallG hM,mkT,wFalse,go_sem]
     exact fin [_] _ (isTks.cons _ _ _ .nil) (Ext.of _ _)
   rw [if_neg (by rw [g1];decide)]
   rcases tf (k == 2) with g2 | g2
   ·rw [if_pos g2]
    rcases tf (decide (i < 0)) with g | g
    ·rw [if_pos g]
     simp +contextual (maxSteps:=10000000) only [c58,mkV,eL,g1,g2,g,φtk1,pcallG hM,mkT,go_sem]
     exact fin [_,_] _ (isTks.cons _ _ _ (isTks.cons _ _ _ .nil)) (Ext.of _ _)
    ·rw [if_neg (by rw [g];decide)]
     simp +contextual (maxSteps:=10000000) only [c58,mkV,eL,g1,g2,g,φtk1,pcallG hM,mkT,go_sem]
     exact fin [_] _ (isTks.cons _ _ _ .nil) (Ext.of _ _)
   rw [if_neg (by rw [g2];decide)]
   rcases tf (k == 3) with g3 | g3
   ·rw [if_pos g3]
    simp +contextual (maxSteps:=10000000) only [c58,mkV,eL,g1,g2,g3,φtk1,pcallG hM,mkT,go_sem]
    exact fin [_] _ (isTks.cons _ _ _ .nil) (Ext.of _ _)
   rw [if_neg (by rw [g3];decide)]
   have g4 : (k == 4) = true:=by rw [g1,g2,g3] at hl;simpa using hl
   simp +contextual (maxSteps:=10000000) only [c58,mkV,eL,g1,g2,g3,g4,φtk1,pcallG hM,mkT,go_sem]
   exact fin [_] _ (isTks.cons _ _ _ .nil) (Ext.of _ _)
  ·cases h
 ·cases h
def φlitk : List D -> Option (List D)
 | [v]=>if v.isV = true /\ (leaf1 v = true ∨ (vl v).all leaf1 = true /\ (vl v).length <= 2 ^ 20) then some (litT v) else none
 | _=>none
set_option maxHeartbeats 4000000 in
theorem ok58 : OkAtG Tryz.prog 58 (φOwn 3 φlitk):=by
 classical
 intro H0 T0 args0 r0 H1 T1 h0
 by_cases hlf : ∃ v,args0 = [v] /\ leaf1 v = true
 ·obtain ⟨v,rfl,hl⟩:=hlf
  refine ok58a H0 T0 [v] r0 H1 T1 ?_
  unfold φOwn at h0 ⊢
  have : φlit1 [v] = φlitk [v]:=by
   simp only [φlit1,φlitk,hl,and_true,true_or]
   rw [show litT v = litT1 v by unfold litT;rw [if_pos hl]]
  rw [this];exact h0
 revert H0 T0 args0 r0 H1 T1
 classical
 have main : OkAtG Tryz.prog 58 (φOwn 3 fun a=>if ∃ v,a = [v] /\ leaf1 v = true then none else φlitk a):=by
  refine okOwn_of (X:=XG Tryz.prog [] [(59,φtk1 1),(60,φtk1 5)] [] [] [(58,φOwn 3 φlit1)]) (XG.X (.cons ok59 (.cons ok60 .nil)) .nil .nil (.cons ok58a .nil)) fn58 fun args xs h=>?_
  have hM : MonoH []:=.nil
  split at h
  ·cases h
  rename_i hnl
  unfold φlitk at h
  split at h
  ·rename_i v
   split at h
   ·rename_i hc
    obtain ⟨hv,hl⟩:=hc
    injection h with h;subst h
    refine ⟨by simp,isTks.cl (litT_tok v) _ _,fun H T=>?_⟩
    have hleaf : leaf1 v = false:=by
     cases hx : leaf1 v with
     | false=>rfl
     | true=>exact absurd ⟨v,rfl,hx⟩ hnl
    rw [hleaf] at hl
    simp only [Bool.false_eq_true,false_or] at hl
    obtain ⟨hl,hlen⟩:=hl
    have hLT : litT v = mkT 5 [91] 0 :: (cmL litT1 (vl v) ++ [mkT 5 [93] 0]):=by unfold litT;rw [hleaf];rfl
    rw [hLT]
    obtain ⟨k,i,s,nl,l,rfl,z,y,hV⟩:=isV_elim hv
    have eL:=erase_of_isV hV
    simp only [leaf1,vk_mk,Bool.or_eq_false_iff] at hleaf
    simp only [vl_mk] at hl hlen ⊢
    obtain ⟨⟨⟨g1,g2⟩,g3⟩,g4⟩:=hleaf
    simp +contextual (maxSteps:=10000000) only [c58,mkV,eL,g1,g2,g3,g4,φtk1,pcallG hM,mkT,go_sem]
    refine W_for (fun j s'=>s'.t 1 = .ptr H.length 0 /\ s'.t 3 = .sl (some T.length) (mkT 5 [91] 0 :: cmL litT1 (l.take j)) /\ s'.t 4 = .int .i64 j /\ s'.H = H ++ [.row [.int .i64 k,.int .i64 i,.str s,sliceD nl l]] /\ (∃ L,s'.T = T ++ some ((cmL litT1 (l.take j)).length + 1,3) :: L) /\ j <= l.length) l.length
     ⟨0,by simp [upd,argT],by simp [upd,argT,cmL,mkT],by simp [upd],rfl,⟨[],by simp [cmL]⟩,by omega⟩ (fun i s h=>h.2.2.2.2.2) ?_ (XG_mono _ _ _ _ _)
    rintro j ⟨t',B,T'⟩ ⟨r1,r3,r4,rfl,⟨L,rfl⟩,hj⟩
    simp only at r1 r3 r4
    have hcl:=cmL_le (f:=litT1) (b:=2) (l.take j) fun x _=>litT1_le x
    rw [List.length_take] at hcl
    have htk : isTks (mkT 5 [91] 0 :: cmL litT1 (l.take j)):=isTks.cons _ _ _ fun x hx=>by
     rcases cmL_mem hx with rfl | ⟨y,_,hy⟩
     ·exact ⟨_,_,_,rfl⟩
     ·exact litT1_tok y x hy
    obtain ⟨O,hO⟩ : ∃ O,cmL litT1 (l.take j) = O:=⟨_,rfl⟩
    rw [hO] at r3 hcl htk
    have hfO : O.all (fit 3) = true:=isTks.fit fun x hx=>htk x (by simp [hx])
    by_cases ha : j < l.length
    ·have d1 : decide ((j : Int) < l.length) = true:=by simpa using ha
     have ex : l[j]? = some l[j]:=by simp [ha]
     have hst:=cmL_step (f:=litT1) ex
     have hxV:=hV _ (List.getElem_mem ha)
     have hxl:=List.all_eq_true.1 hl _ (List.getElem_mem ha)
     obtain ⟨x,hx⟩ : ∃ x,l[j] = x:=⟨_,rfl⟩
     rw [hx] at ex hst hxV hxl
     have px : ∀ H T,φOwn 3 φlit1 H T [x] = some (.sl (some T.length) (litT1 x),H,T ++ [some ((litT1 x).length,3)]):=fun H T=>by
      simp only [φOwn,φlit1];rw [if_pos ⟨hxV,hxl⟩]
     have hfx:=isTks.fit (litT1_tok x)
     have hx2:=litT1_le x
     have htx:=litT1_tok x
     obtain ⟨Y,hY⟩ : ∃ Y,litT1 x = Y:=⟨_,rfl⟩
     rw [hY] at px hst hfx hx2 htx
     clear hx
     obtain ⟨k',i',s',nl',l',rfl,_,_,hV'⟩:=isV_elim hxV
     have eL':=erase_of_isV hV'
     simp only [mkV] at ex px
     rw [hst]
     rcases tf (decide ((0 : Int) < j)) with g | g
     ·have gj : 0 < j:=by simpa using g
      rw [hO,if_pos gj]
      simp +contextual (maxSteps:=10000000) only [r1,r3,r4,d1,ex,px,eL',g,φtk1,pcallG hM,mkT,wrap_succ j (by omega),appK_tok0,appK_tok,hfx,go_sem]
      exact ⟨by omega,by omega,hfO,rfl,by omega,by omega,by rw [List.all_append,hfO];rfl,rfl,⟨L ++ [some (1,3)] ++ [some (Y.length,3)],by simp;omega⟩,by omega⟩
     ·have gj : ¬ 0 < j:=by simpa using g
      rw [hO,if_neg gj]
      simp +contextual (maxSteps:=10000000) only [r1,r3,r4,d1,ex,px,eL',g,φtk1,pcallG hM,mkT,wrap_succ j (by omega),appK_tok0,appK_tok,hfx,go_sem]
      exact ⟨by omega,by omega,hfO,⟨L ++ [some (Y.length,3)],by simp;omega⟩,by omega⟩
    ·have d1 : decide ((j : Int) < l.length) = false:=by simpa using ha
     have : j = l.length:=by omega
     subst this
     rw [List.take_length] at hO
     rw [hO]
     simp +contextual (maxSteps:=10000000) only [r1,r3,r4,d1,φtk1,pcallG hM,mkT,appK_tok0,appK_tok,go_sem]
     refine ⟨by rw [List.take_length,hO],by omega,by omega,hfO,?_⟩
     have:=leavesG_own (H:=H) (T:=T) (z:=3) (τ:=T.length) (xs:=mkT 5 [91] 0 :: (O ++ [mkT 5 [93] 0])) (T':=T ++ (some (O.length + 1 + 1,3) :: (L ++ [some (1,3)]))) (Ext.of H [.row [.int .i64 k,.int .i64 i,.str s,sliceD nl l]]) (ExtT.of _ _) (isTks.cl (isTks.cons _ _ _ (isTks.app (fun x hx=>htk x (by simp [hx])) (isTks.cons _ _ _ .nil))) _ _) (Nat.le_refl _) (by simp)
     simpa [mkT] using this
   ·cases h
  ·cases h
 intro H0 T0 args0 r0 H1 T1 h0 hlf
 refine main H0 T0 args0 r0 H1 T1 ?_
 unfold φOwn at h0 ⊢
 simp only [hlf,if_false];exact h0
end GP
namespace GP
open Go Go.Proofs
set_option maxRecDepth 100000
section
variable {P : Program} [HasG P]
theorem OkAtG.pure {z : Nat} {f : FuncId} {φ : List D -> Option (List D)} (h : OkAtG P f (φOwn z φ)) (hx : ∀ a xs,φ a = some xs -> D.clL 0 0 xs = true /\ D.eraseL xs = xs) : OkAt P f (fun a=>(φ a).map (.sl none)):=by
 intro args r hr args' he H T Q hQ
 change (φ args).map (.sl none) = some r at hr
 cases ha : φ args with
 | none=>rw [ha] at hr;cases hr
 | some xs =>
  rw [ha] at hr;simp only [Option.map_some,Option.some.injEq] at hr
  subst hr
  obtain ⟨h1,h2⟩:=hx args xs ha
  have hS:=h H T args (.sl (some T.length) xs) H (T ++ [some (xs.length,z)]) (by simp only [φOwn,ha]) args' he (fun r H' T'=>r.erase = .sl none xs /\ (∃ L,H' = H ++ L) /\ ∃ U,T' = T ++ U) ⟨by simp only [D.erase,h2],⟨[],by simp⟩,⟨_,rfl⟩⟩
  intro c w vs kg k1 k2 k3
  have hcl : (D.sl none xs).cl H.length T.length = true:=by
   simp only [D.cl,Bool.true_and]
   exact D.clL_mono (Nat.zero_le _) (Nat.zero_le _) xs h1
  rcases hS c w vs kg k1 k2 k3 with ⟨g1,g2⟩ | ⟨v,w',g1,g2⟩
  ·exact .inl ⟨g1,g2.mono fun e w' k=>CallPost.forget k1 k2 hcl hQ k⟩
  ·exact .inr ⟨v,w',g1,CallPost.forget k1 k2 hcl hQ g2⟩
end
def tP : D:=mkT 5 [40] 0
def tQ : D:=mkT 5 [41] 0
def parW (full : Bool) (s least : Int) (l : List D) : List D:=if decide (least <= s) && (!full || (s == 7)) then l else tP :: (l ++ [tQ])
def opW : List (List UInt8):=[wOr,wAnd,sIn]
def opTok (op : List UInt8) : D:=if inB opW op then mkT 1 op 0 else mkT 5 op 0
def lstS (op : List UInt8) : Int:=if stI op == 3 then 4 else stI op
def sub0 (e : D) : D:=(eps e).getD 0 .top
def sub1 (e : D) : D:=(eps e).getD 1 .top
def tokD : Nat -> Bool -> D -> List D
 | 0,_,_=>[]
 | n + 1,full,e =>
  if eop e == sVal then litT (eV e) else
  if eop e == sNow then [mkT 1 sNow 0] else
  if eop e == sAttr then [mkT 1 (ewho e) 0,mkT 5 [46] 0,mkT 1 (ename e) 0] else
  if eop e == sHas then [mkT 1 sHas 0,tP,mkT 1 (ewho e) 0,mkT 5 [46] 0,mkT 1 (ename e) 0,tQ] else
  if eop e == sRole then [mkT 1 sRole 0,tP,mkT 3 (ename e) 0,tQ] else
  if eop e == sSize then [mkT 1 sSize 0,tP] ++ (tokD n full (sub0 e) ++ [tQ]) else
  if eop e == sNot then mkT 1 sNot 0 :: parW full (stI (eop (sub0 e))) 2 (tokD n full (sub0 e)) else
  if eop e == sNeg then mkT 5 [45] 0 :: parW full (stI (eop (sub0 e))) 6 (tokD n full (sub0 e)) else
  parW full (stI (eop (sub0 e))) (lstS (eop e)) (tokD n full (sub0 e)) ++ (opTok (eop e) :: parW full (stI (eop (sub1 e))) (stI (eop e) + 1) (tokD n full (sub1 e)))
theorem parW_tok {full : Bool} {s least : Int} {l : List D} (h : isTks l) : isTks (parW full s least l):=by
 unfold parW
 split
 ·exact h
 ·exact isTks.cons _ _ _ (h.app (isTks.cons _ _ _ .nil))
theorem parW_le (full : Bool) (s least : Int) (l : List D) : l.length <= (parW full s least l).length:=by
 unfold parW;split <;> simp <;> omega
theorem opTok_tok (op : List UInt8) {l : List D} (h : isTks l) : isTks (opTok op :: l):=by
 unfold opTok;split <;> exact isTks.cons _ _ _ h
theorem tokD_tok : ∀ (n : Nat) (full : Bool) (e : D),isTks (tokD n full e)
 | 0,_,_=>.nil
 | n + 1,full,e=>by
  unfold tokD
  split
  ·exact litT_tok _
  split
  ·exact isTks.cons _ _ _ .nil
  split
  ·exact isTks.cons _ _ _ (isTks.cons _ _ _ (isTks.cons _ _ _ .nil))
  split
  ·exact isTks.cons _ _ _ (isTks.cons _ _ _ (isTks.cons _ _ _ (isTks.cons _ _ _ (isTks.cons _ _ _ (isTks.cons _ _ _ .nil)))))
  split
  ·exact isTks.cons _ _ _ (isTks.cons _ _ _ (isTks.cons _ _ _ (isTks.cons _ _ _ .nil)))
  split
  ·exact isTks.cons _ _ _ (isTks.cons _ _ _ ((tokD_tok n full _).app (isTks.cons _ _ _ .nil)))
  split
  ·exact isTks.cons _ _ _ (parW_tok (tokD_tok n full _))
  split
  ·exact isTks.cons _ _ _ (parW_tok (tokD_tok n full _))
  ·exact (parW_tok (tokD_tok n full _)).app (opTok_tok _ (parW_tok (tokD_tok n full _)))
open Classical in
noncomputable def φtokF (n : Nat) : List D -> Option (List D)
 | [e,.bool full]=>if isE n e /\ fmR n e = true /\ (tokD n full e).length <= 2 ^ 30 then some (tokD n full e) else none
 | _=>none
open Classical in
noncomputable def φparF (n : Nat) : List D -> Option (List D)
 | [e,.int .i64 least,.bool full]=>if isE n e /\ fmR n e = true /\ (parW full (stI (eop e)) least (tokD n full e)).length <= 2 ^ 30 then some (parW full (stI (eop e)) least (tokD n full e)) else none
 | _=>none
theorem φparF_cl (n : Nat) (a : List D) (xs : List D) (h : φparF n a = some xs) : D.clL 0 0 xs = true /\ D.eraseL xs = xs:=by
 unfold φparF at h
 split at h
 ·split at h
  ·injection h with h;subst h
   have:=parW_tok (full:=‹Bool›) (s:=stI (eop ‹D›)) (least:=‹Int›) (tokD_tok n ‹Bool› ‹D›)
   exact ⟨this.cl _ _,this.erase⟩
  ·cases h
 ·cases h
set_option maxHeartbeats 2000000 in
theorem ok61 {n : Nat} (h24 : OkAtG Tryz.prog 24 (φOwn 3 (φtokF n))) : OkAtG Tryz.prog 61 (φOwn 3 (φparF n)):=by
 refine okOwn_of (X:=XG Tryz.prog [] [(52,φst),(60,φtk1 5)] [] [] [(24,φOwn 3 (φtokF n))]) (XG.X (.cons ok52 (.cons ok60 .nil)) .nil .nil (.cons h24 .nil)) fn61 fun args xs h=>?_
 have hM : MonoH []:=.nil
 unfold φparF at h
 split at h
 ·rename_i e least full
  split at h
  ·rename_i hc
   obtain ⟨he,hf,hlen⟩:=hc
   injection h with h;subst h
   have hle:=parW_le full (stI (eop e)) least (tokD n full e)
   have htk:=tokD_tok n full e
   have hO30 : (tokD n full e).length <= 2 ^ 30:=by omega
   refine ⟨by simp,(parW_tok htk).cl _ _,fun H T=>?_⟩
   have px : ∀ H T,φOwn 3 (φtokF n) H T [e,.bool full] = some (.sl (some T.length) (tokD n full e),H,T ++ [some ((tokD n full e).length,3)]):=fun H T=>by
    simp only [φOwn,φtokF];rw [if_pos ⟨he,hf,by omega⟩]
   have ps : φst [.str (eop e)] = some (.int .i64 (stI (eop e))):=rfl
   have ee:=isE_erase he
   obtain ⟨q1,q2,q3,q4⟩:=isE_cells he
   obtain ⟨op,k,i,t,nl,l,who,name,m,ps',rfl,h1,h2,h3,h4,h5,h6,eL,eP⟩:=isE_elim he
   simp only [eop_mk] at ps hlen ⊢
   unfold parW at hlen ⊢
   obtain ⟨sv,hsv⟩ : ∃ z,stI op = z:=⟨_,rfl⟩
   simp only [hsv] at ps hlen ⊢
   clear hsv
   have hfit:=htk.fit
   obtain ⟨O,hO⟩ : ∃ z,tokD n full (mkE op k i t nl l who name m ps') = z:=⟨_,rfl⟩
   simp only [hO] at px hlen hle htk hfit hO30 ⊢
   clear hO
   simp only [mkE] at px
   have one : ∀ B : Hp,Ext H B -> LeavesG H T (.sl (some T.length) O) H (T ++ [some (O.length,3)]) (.sl (some T.length) O) B (T ++ [some (O.length,3)]):=fun B hB =>
    leavesG_own hB (ExtT.of _ _) (htk.cl _ _) (Nat.le_refl _) (by simp)
   have two : ∀ B : Hp,Ext H B -> O.length <= 2 ^ 30 -> LeavesG H T (.sl (some T.length) (tP :: (O ++ [tQ]))) H (T ++ [some (O.length + 2,3)]) (.sl (some (T.length + 1)) (tP :: (O ++ [tQ]))) B (T ++ [some (O.length,3),some (O.length + 2,3),some (1,3)]):=fun B hB _=>by
    have:=leavesG_own (H:=H) (T:=T) (z:=3) (τ:=T.length + 1) (xs:=tP :: (O ++ [tQ])) (T':=T ++ [some (O.length,3),some (O.length + 2,3),some (1,3)]) hB (ExtT.of _ _) (isTks.cl (isTks.cons _ _ _ (htk.app (isTks.cons _ _ _ .nil))) _ _) (by omega) (by simp)
    simpa using this
   have gd : ∀ b : Bool,(decide (least <= sv) && (!full || (sv == 7))) = b -> W (XG Tryz.prog [] [(52,φst),(60,φtk1 5)] [] [] [(24,φOwn 3 (φtokF n))]) c61 (endQ [.inl 6] (LeavesG H T (.sl (some T.length) (if b then O else tP :: (O ++ [tQ]))) H (T ++ [some ((if b then O else tP :: (O ++ [tQ])).length,3)]))) ⟨argT [mkE op k i t nl l who name m ps',.int .i64 least,.bool full],H,T⟩:=by
    intro b hb
    rcases tf (decide (least <= sv)) with g1 | g1
    ·cases full with
     | false =>
      rw [g1] at hb
      simp only [Bool.not_false,Bool.true_or,Bool.and_true] at hb
      subst hb
      simp +contextual (maxSteps:=10000000) only [c61,mkE,eL,eP,px,ps,g1,pcallG hM,go_sem]
      exact one _ (Ext.of _ _)
     | true =>
      rcases tf (sv == 7) with g2 | g2
      ·rw [g1,g2] at hb
       simp only [Bool.not_true,Bool.false_or,Bool.and_true] at hb
       subst hb
       simp +contextual (maxSteps:=10000000) only [c61,mkE,eL,eP,px,ps,g1,g2,pcallG hM,go_sem]
       exact one _ (Ext.of _ _)
      ·rw [g1,g2] at hb
       simp only [Bool.not_true,Bool.or_false,Bool.and_false] at hb
       subst hb
       simp +contextual (maxSteps:=10000000) only [c61,mkE,eL,eP,px,ps,g1,g2,φtk1,pcallG hM,mkT,appK_tok,hfit,List.set_cons_zero,List.set_cons_succ,go_sem]
       exact ⟨by omega,by omega,by rw [Nat.add_comm],by omega,by omega,two _ (Ext.of _ _) hO30⟩
    ·rw [g1] at hb
     simp only [Bool.false_and] at hb
     subst hb
     simp +contextual (maxSteps:=10000000) only [c61,mkE,eL,eP,px,ps,g1,φtk1,pcallG hM,mkT,appK_tok,hfit,List.set_cons_zero,List.set_cons_succ,go_sem]
     exact ⟨by omega,by omega,by rw [Nat.add_comm],by omega,by omega,two _ (Ext.of _ _) hO30⟩
   exact gd _ rfl
  ·cases h
 ·cases h
theorem fmR_s {n : Nat} {e : D} (h : fmR (n + 1) e = true) : 0 <= stI (eop e) /\ ((eps e).length : Int) = arN (eop e) /\ (∀ x ∈ eps e,fmR n x = true) /\ fmTop e = true:=by
 simp only [fmR] at h
 split at h
 ·cases h
 ·rename_i h1
  split at h
  ·cases h
  ·rename_i h2
   simp only [Bool.or_eq_true,decide_eq_true_eq,bne_iff_ne,ne_eq,not_or,Decidable.not_not] at h1
   simp only [Bool.not_eq_true',Bool.not_eq_false] at h2
   exact ⟨by omega,h1.2,fun x hx=>List.all_eq_true.1 h2 x hx,h⟩
theorem stI_2 {op : List UInt8} (h : stI op = 2) : op = wNot:=by
 unfold stI at h;(repeat' split at h) <;> simp_all
theorem stI_6 {op : List UInt8} (h : stI op = 6) : op = wNeg:=by
 unfold stI at h;(repeat' split at h) <;> simp_all
theorem stI_7 {op : List UInt8} (h : stI op = 7) : inB plainW op = true:=by
 unfold stI at h;(repeat' split at h) <;> simp_all
theorem litB_leaf {v : D} {b : Bool} (h : litB v b = true) : leaf1 v = true:=by
 unfold litB at h
 unfold leaf1
 rcases tf (vk v == 2) with g | g
 ·rw [g];simp
 ·rw [if_neg (by rw [g];decide)] at h
  rcases tf (vk v == 1) with g1 | g1
  ·rw [g1];simp
  ·rcases tf (vk v == 4) with g4 | g4
   ·rw [g4];simp
   ·rw [g1,g4] at h
    simp only [Bool.false_or,Bool.and_eq_true] at h
    rw [h.1];simp
theorem valB_dom {v : D} (h : valB v = true) : leaf1 v = true ∨ (vl v).all leaf1 = true /\ (vl v).length <= 2 ^ 20:=by
 unfold valB at h
 split at h
 ·cases h
 ·rename_i hf
  split at h
  ·exact .inl (litB_leaf h)
  ·rename_i hk
   simp only [Bool.and_eq_true] at h
   refine .inr ⟨List.all_eq_true.2 fun x hx=>litB_leaf (List.all_eq_true.1 h.1 x hx),?_⟩
   simp only [Bool.not_eq_true',Bool.not_eq_false] at hf
   unfold formedB at hf
   rw [if_neg hk] at hf
   split at hf
   ·cases hf
   ·rename_i hq
    simp only [Bool.or_eq_true,decide_eq_true_eq,not_or] at hq
    omega
theorem sub_get {n : Nat} {e : D} (he : isE (n + 1) e) {i : Nat} (hi : i < (eps e).length) : isE n ((eps e).getD i .top) /\ (eps e)[i]? = some ((eps e).getD i .top) /\ (eps e).getD i .top ∈ eps e:=by
 obtain ⟨op,k,i',t,nl,l,who,name,m,ps,rfl,h1,h2,h3,h4,h5,h6,_,_⟩:=isE_elim he
 have h6 : ∀ x ∈ ps,isE n x:=h6
 rw [eps_mk] at hi ⊢
 have e1 : ps.getD i .top = ps[i]:=by simp [hi]
 rw [e1]
 exact ⟨h6 _ (List.getElem_mem hi),by simp [hi],List.getElem_mem hi⟩
section
variable {n : Nat} {full : Bool} {e : D}
theorem tokD_val (g1 : (eop e == sVal) = true) : tokD (n + 1) full e = litT (eV e):=by simp only [tokD];rw [if_pos g1]
theorem tokD_now (g1 : (eop e == sVal) = false) (g2 : (eop e == sNow) = true) : tokD (n + 1) full e = [mkT 1 sNow 0]:=by
 simp only [tokD];rw [if_neg (by rw [g1];decide),if_pos g2]
theorem tokD_attr (g1 : (eop e == sVal) = false) (g2 : (eop e == sNow) = false) (g3 : (eop e == sAttr) = true) : tokD (n + 1) full e = [mkT 1 (ewho e) 0,mkT 5 [46] 0,mkT 1 (ename e) 0]:=by
 simp only [tokD];rw [if_neg (by rw [g1];decide),if_neg (by rw [g2];decide),if_pos g3]
theorem tokD_has (g1 : (eop e == sVal) = false) (g2 : (eop e == sNow) = false) (g3 : (eop e == sAttr) = false) (g4 : (eop e == sHas) = true) : tokD (n + 1) full e = [mkT 1 sHas 0,tP,mkT 1 (ewho e) 0,mkT 5 [46] 0,mkT 1 (ename e) 0,tQ]:=by
 simp only [tokD];rw [if_neg (by rw [g1];decide),if_neg (by rw [g2];decide),if_neg (by rw [g3];decide),if_pos g4]
theorem tokD_role (g1 : (eop e == sVal) = false) (g2 : (eop e == sNow) = false) (g3 : (eop e == sAttr) = false) (g4 : (eop e == sHas) = false) (g5 : (eop e == sRole) = true) : tokD (n + 1) full e = [mkT 1 sRole 0,tP,mkT 3 (ename e) 0,tQ]:=by
 simp only [tokD];rw [if_neg (by rw [g1];decide),if_neg (by rw [g2];decide),if_neg (by rw [g3];decide),if_neg (by rw [g4];decide),if_pos g5]
theorem tokD_size (g1 : (eop e == sVal) = false) (g2 : (eop e == sNow) = false) (g3 : (eop e == sAttr) = false) (g4 : (eop e == sHas) = false) (g5 : (eop e == sRole) = false) (g6 : (eop e == sSize) = true) : tokD (n + 1) full e = mkT 1 sSize 0 :: tP :: (tokD n full (sub0 e) ++ [tQ]):=by
 simp only [tokD];rw [if_neg (by rw [g1];decide),if_neg (by rw [g2];decide),if_neg (by rw [g3];decide),if_neg (by rw [g4];decide),if_neg (by rw [g5];decide),if_pos g6];rfl
theorem tokD_not (g1 : (eop e == sVal) = false) (g2 : (eop e == sNow) = false) (g3 : (eop e == sAttr) = false) (g4 : (eop e == sHas) = false) (g5 : (eop e == sRole) = false) (g6 : (eop e == sSize) = false) (g7 : (eop e == sNot) = true) :
  tokD (n + 1) full e = mkT 1 sNot 0 :: parW full (stI (eop (sub0 e))) 2 (tokD n full (sub0 e)):=by
 simp only [tokD];rw [if_neg (by rw [g1];decide),if_neg (by rw [g2];decide),if_neg (by rw [g3];decide),if_neg (by rw [g4];decide),if_neg (by rw [g5];decide),if_neg (by rw [g6];decide),if_pos g7]
theorem tokD_neg (g1 : (eop e == sVal) = false) (g2 : (eop e == sNow) = false) (g3 : (eop e == sAttr) = false) (g4 : (eop e == sHas) = false) (g5 : (eop e == sRole) = false) (g6 : (eop e == sSize) = false) (g7 : (eop e == sNot) = false) (g8 : (eop e == sNeg) = true) :
  tokD (n + 1) full e = mkT 5 [45] 0 :: parW full (stI (eop (sub0 e))) 6 (tokD n full (sub0 e)):=by
 simp only [tokD];rw [if_neg (by rw [g1];decide),if_neg (by rw [g2];decide),if_neg (by rw [g3];decide),if_neg (by rw [g4];decide),if_neg (by rw [g5];decide),if_neg (by rw [g6];decide),if_neg (by rw [g7];decide),if_pos g8]
theorem tokD_two (g1 : (eop e == sVal) = false) (g2 : (eop e == sNow) = false) (g3 : (eop e == sAttr) = false) (g4 : (eop e == sHas) = false) (g5 : (eop e == sRole) = false) (g6 : (eop e == sSize) = false) (g7 : (eop e == sNot) = false) (g8 : (eop e == sNeg) = false) :
  tokD (n + 1) full e = parW full (stI (eop (sub0 e))) (lstS (eop e)) (tokD n full (sub0 e)) ++ (opTok (eop e) :: parW full (stI (eop (sub1 e))) (stI (eop e) + 1) (tokD n full (sub1 e))):=by
 simp only [tokD];rw [if_neg (by rw [g1];decide),if_neg (by rw [g2];decide),if_neg (by rw [g3];decide),if_neg (by rw [g4];decide),if_neg (by rw [g5];decide),if_neg (by rw [g6];decide),if_neg (by rw [g7];decide),if_neg (by rw [g8];decide)]
end
theorem fmTop_val {e : D} (h : fmTop e = true) (g : (eop e == sVal) = true) : valB (eV e) = true /\ ewho e = [] /\ ename e = []:=by
 unfold fmTop at h
 rw [if_pos g] at h
 simp only [Bool.and_eq_true,beq_iff_eq] at h
 exact ⟨h.1.1,h.1.2,h.2⟩
theorem eq_of_beq' {a b : List UInt8} (h : (a == b) = true) : a = b:=by simpa using h
theorem two_op {op : List UInt8} (h0 : 0 <= stI op) (g1 : (op == sVal) = false) (g2 : (op == sNow) = false) (g3 : (op == sAttr) = false) (g4 : (op == sHas) = false) (g5 : (op == sRole) = false) (g6 : (op == sSize) = false) (g7 : (op == sNot) = false) (g8 : (op == sNeg) = false) :
  (stI op = 0 ∨ stI op = 1 ∨ stI op = 3 ∨ stI op = 4 ∨ stI op = 5) /\ arN op = 2:=by
 have hA:=arN_of (op:=op)
 rcases stI_cases op with h | h | h | h | h | h | h | h | h
 ·exact ⟨.inl h,hA.1 h⟩
 ·exact ⟨.inr (.inl h),hA.2.1 h⟩
 ·exact ⟨.inr (.inr (.inl h)),hA.2.2.1 h⟩
 ·exact ⟨.inr (.inr (.inr (.inl h))),hA.2.2.2.1 h⟩
 ·exact ⟨.inr (.inr (.inr (.inr h))),hA.2.2.2.2.1 h⟩
 ·rw [stI_2 h] at g7;cases g7
 ·rw [stI_6 h] at g8;cases g8
 ·have:=stI_7 h
  simp only [inB,plainW,List.any_cons,List.any_nil,Bool.or_false,Bool.or_eq_true] at this
  have sw : ∀ a b : List UInt8,(a == b) = true -> (b == a) = true:=fun a b h=>by simp only [beq_iff_eq] at h ⊢;exact h.symm
  rcases this with t | t | t | t | t | t
  ·rw [show (op == sVal) = true from sw _ _ t] at g1;cases g1
  ·rw [show (op == sNow) = true from sw _ _ t] at g2;cases g2
  ·rw [show (op == sAttr) = true from sw _ _ t] at g3;cases g3
  ·rw [show (op == sHas) = true from sw _ _ t] at g4;cases g4
  ·rw [show (op == sRole) = true from sw _ _ t] at g5;cases g5
  ·rw [show (op == sSize) = true from sw _ _ t] at g6;cases g6
 ·omega
set_option maxHeartbeats 16000000 in
theorem ok24s {n : Nat} (h24 : OkAtG Tryz.prog 24 (φOwn 3 (φtokF n))) (h61 : OkAtG Tryz.prog 61 (φOwn 3 (φparF n))) : OkAtG Tryz.prog 24 (φOwn 3 (φtokF (n + 1))):=by
 refine okOwn_of (X:=XG Tryz.prog [61] [(52,φst),(59,φtk1 1),(60,φtk1 5),(62,φin)] [] [] [(24,φOwn 3 (φtokF n)),(58,φOwn 3 φlitk)]) (XG.X (.cons ok52 (.cons ok59 (.cons ok60 (.cons ok62 .nil)))) .nil .nil (.cons h24 (.cons ok58 .nil))) fn24 fun args xs h=>?_
 have hM : MonoH []:=.nil
 have h61p:=OkAtG.pure h61 (φparF_cl n)
 unfold φtokF at h
 split at h
 ·rename_i e full
  split at h
  ·rename_i hc
   obtain ⟨he,hf,hlen⟩:=hc
   injection h with h;subst h
   refine ⟨by simp,(tokD_tok (n + 1) full e).cl _ _,fun H T=>?_⟩
   obtain ⟨f1,f2,f3,f4⟩:=fmR_s hf
   have ps : φst [.str (eop e)] = some (.int .i64 (stI (eop e))):=rfl
   have own : ∀ (ys : List D) (B : Hp) (U : Tk),isTks ys -> Ext H B -> LeavesG H T (.sl (some T.length) ys) H (T ++ [some (ys.length,3)]) (.sl (some T.length) ys) B (T ++ some (ys.length,3) :: U):=fun ys B U hy hB =>
    leavesG_own hB (ExtT.of _ _) (hy.cl _ _) (Nat.le_refl _) (by simp)
   have kid : ∀ (i : Nat),i < (eps e).length -> ∃ x,(eps e).getD i .top = x /\ (eps e)[i]? = some x /\ x.erase = x /\ x.cells.length = 8 /\ x.cells.take 8 = x.cells /\ D.agg x.cells = x /\ isTks (tokD n full x) ∧
     ((tokD n full x).length <= 2 ^ 30 -> ∀ H T,φOwn 3 (φtokF n) H T [x,.bool full] = some (.sl (some T.length) (tokD n full x),H,T ++ [some ((tokD n full x).length,3)])) ∧
     (∀ least,(parW full (stI (eop x)) least (tokD n full x)).length <= 2 ^ 30 -> φparF n [x,.int .i64 least,.bool full] = some (parW full (stI (eop x)) least (tokD n full x))):=fun i hi=>by
    obtain ⟨x1,x2,x3⟩:=sub_get he hi
    obtain ⟨q1,q2,q3,_⟩:=isE_cells x1
    refine ⟨_,rfl,x2,isE_erase x1,q1,q2,q3,tokD_tok _ _ _,fun hl H T=>?_,fun least hl=>?_⟩
    ·simp only [φOwn,φtokF];rw [if_pos ⟨x1,f3 _ x3,hl⟩]
    ·simp only [φparF];rw [if_pos ⟨x1,f3 _ x3,hl⟩]
   have plit : valB (eV e) = true -> (eV e).isV = true -> ∀ H T,φOwn 3 φlitk H T [eV e] = some (.sl (some T.length) (litT (eV e)),H,T ++ [some ((litT (eV e)).length,3)]):=fun h hv H T=>by
    simp only [φOwn,φlitk];rw [if_pos ⟨hv,valB_dom h⟩]
   rcases tf (eop e == sVal) with g1 | g1
   ·rw [tokD_val g1] at hlen ⊢
    have pl:=plit (fmTop_val f4 g1).1
    obtain ⟨op,k,i,t,nl,l,who,name,m,ps',rfl,h1,h2,h3,h4,h5,h6,eL,eP⟩:=isE_elim he
    simp only [eop_mk] at ps
    have k1 : (op == [118,97,108,117,101]) = true:=g1
    have pl:=pl h4.1
    have hk:=litT_tok (eV (mkE op k i t nl l who name m ps'))
    obtain ⟨O,hO⟩ : ∃ z,litT (eV (mkE op k i t nl l who name m ps')) = z:=⟨_,rfl⟩
    simp only [hO] at pl hk hlen ⊢
    simp only [eV_mk,mkV] at pl
    simp +contextual (maxSteps:=10000000) only [c24,mkE,eL,eP,ps,k1,pl,pcallG hM,go_sem]
    exact own O _ [] hk (Ext.of _ _)
   rcases tf (eop e == sNow) with g2 | g2
   ·rw [tokD_now g1 g2]
    obtain ⟨op,k,i,t,nl,l,who,name,m,ps',rfl,h1,h2,h3,h4,h5,h6,eL,eP⟩:=isE_elim he
    simp only [eop_mk] at ps
    have k1 : (op == [118,97,108,117,101]) = false:=g1
    have k2 : (op == [110,111,119]) = true:=g2
    simp +contextual (maxSteps:=10000000) only [c24,mkE,eL,eP,ps,k1,k2,pcallG hM,φtk1,mkT,sNow,go_sem]
    exact own [_] _ [] (isTks.cons _ _ _ .nil) (Ext.of _ _)
   rcases tf (eop e == sAttr) with g3 | g3
   ·rw [tokD_attr g1 g2 g3]
    obtain ⟨op,k,i,t,nl,l,who,name,m,ps',rfl,h1,h2,h3,h4,h5,h6,eL,eP⟩:=isE_elim he
    simp only [eop_mk] at ps
    have k1 : (op == [118,97,108,117,101]) = false:=g1
    have k2 : (op == [110,111,119]) = false:=g2
    have k3 : (op == [97,116,116,114]) = true:=g3
    simp +contextual (maxSteps:=10000000) only [c24,mkE,eL,eP,ps,k1,k2,k3,pcallG hM,φtk1,mkT,sNow,ewho_mk,ename_mk,go_sem]
    exact own [_,_,_] _ [] (isTks.cons _ _ _ (isTks.cons _ _ _ (isTks.cons _ _ _ .nil))) (Ext.of _ _)
   rcases tf (eop e == sHas) with g4 | g4
   ·rw [tokD_has g1 g2 g3 g4]
    obtain ⟨op,k,i,t,nl,l,who,name,m,ps',rfl,h1,h2,h3,h4,h5,h6,eL,eP⟩:=isE_elim he
    simp only [eop_mk] at ps
    have k1 : (op == [118,97,108,117,101]) = false:=g1
    have k2 : (op == [110,111,119]) = false:=g2
    have k3 : (op == [97,116,116,114]) = false:=g3
    have k4 : (op == [104,97,115]) = true:=g4
    simp +contextual (maxSteps:=10000000) only [c24,mkE,eL,eP,ps,k1,k2,k3,k4,pcallG hM,φtk1,mkT,sHas,tP,tQ,ewho_mk,ename_mk,go_sem]
    exact own [_,_,_,_,_,_] _ [] (isTks.cons _ _ _ (isTks.cons _ _ _ (isTks.cons _ _ _ (isTks.cons _ _ _ (isTks.cons _ _ _ (isTks.cons _ _ _ .nil)))))) (Ext.of _ _)
   rcases tf (eop e == sRole) with g5 | g5
   ·rw [tokD_role g1 g2 g3 g4 g5]
    obtain ⟨op,k,i,t,nl,l,who,name,m,ps',rfl,h1,h2,h3,h4,h5,h6,eL,eP⟩:=isE_elim he
    simp only [eop_mk] at ps
    have k1 : (op == [118,97,108,117,101]) = false:=g1
    have k2 : (op == [110,111,119]) = false:=g2
    have k3 : (op == [97,116,116,114]) = false:=g3
    have k4 : (op == [104,97,115]) = false:=g4
    have k5 : (op == [114,111,108,101]) = true:=g5
    simp +contextual (maxSteps:=10000000) only [c24,mkE,eL,eP,ps,k1,k2,k3,k4,k5,pcallG hM,φtk1,mkT,sRole,tP,tQ,ewho_mk,ename_mk,go_sem]
    exact own [_,_,_,_] _ [] (isTks.cons _ _ _ (isTks.cons _ _ _ (isTks.cons _ _ _ (isTks.cons _ _ _ .nil)))) (Ext.of _ _)
   rcases tf (eop e == sSize) with g6 | g6
   ·rw [tokD_size g1 g2 g3 g4 g5 g6] at hlen ⊢
    have ar : arN (eop e) = 1:=by rw [eq_of_beq' g6];decide
    obtain ⟨x,x1,x2,ee,q1,q2,q3,hk,pt,_⟩:=kid 0 (by omega)
    simp only [sub0,x1] at hlen ⊢
    simp only [List.length_append,List.length_cons,List.length_nil] at hlen
    have pt:=pt (by omega)
    have hfit:=hk.fit
    obtain ⟨O,hO⟩ : ∃ z,tokD n full x = z:=⟨_,rfl⟩
    simp only [hO] at pt hlen hk hfit ⊢
    obtain ⟨op,k,i,t,nl,l,who,name,m,ps',rfl,h1,h2,h3,h4,h5,h6,eL,eP⟩:=isE_elim he
    simp only [eop_mk] at ps
    simp only [eps_mk] at x2
    have k1 : (op == [118,97,108,117,101]) = false:=g1
    have k2 : (op == [110,111,119]) = false:=g2
    have k3 : (op == [97,116,116,114]) = false:=g3
    have k4 : (op == [104,97,115]) = false:=g4
    have k5 : (op == [114,111,108,101]) = false:=g5
    have k6 : (op == [115,105,122,101]) = true:=g6
    simp +contextual (maxSteps:=10000000) only [c24,mkE,eL,eP,ps,k1,k2,k3,k4,k5,k6,pcallG hM,φtk1,mkT,sSize,tP,tQ,x2,ee,q1,q2,q3,pt,appK_tok0,appK_tok,hfit,List.set_cons_zero,List.set_cons_succ,go_sem]
    refine ⟨by omega,by omega,by rw [Nat.add_comm],by omega,by omega,?_⟩
    have:=own (mkT 1 sSize 0 :: tP :: (O ++ [tQ])) _ [some (O.length,3),some (1,3)] (isTks.cons _ _ _ (isTks.cons _ _ _ (hk.app (isTks.cons _ _ _ .nil)))) (Ext.of H [.row [.str op,.int .i64 k,.int .i64 i,.str t,sliceD nl l,.str who,.str name,sliceD m ps']])
    simpa [mkT,tP,tQ,sSize] using this
   rcases tf (eop e == sNot) with g7 | g7
   ·rw [tokD_not g1 g2 g3 g4 g5 g6 g7] at hlen ⊢
    have ar : arN (eop e) = 1:=by rw [eq_of_beq' g7];decide
    obtain ⟨x,x1,x2,ee,q1,q2,q3,hk,_,pt⟩:=kid 0 (by omega)
    simp only [sub0,x1] at hlen ⊢
    simp only [List.length_cons] at hlen
    have pt:=pt 2 (by omega)
    have hk:=parW_tok (full:=full) (s:=stI (eop x)) (least:=2) hk
    obtain ⟨O,hO⟩ : ∃ z,parW full (stI (eop x)) 2 (tokD n full x) = z:=⟨_,rfl⟩
    simp only [hO] at pt hlen hk ⊢
    have hfit:=hk.fit
    have pp : (fun a=>(φparF n a).map (D.sl none)) [x,.int .i64 2,.bool full] = some (.sl none O):=by simp only [pt,Option.map_some]
    obtain ⟨op,k,i,t,nl,l,who,name,m,ps',rfl,h1,h2,h3,h4,h5,h6,eL,eP⟩:=isE_elim he
    simp only [eop_mk] at ps
    simp only [eps_mk] at x2
    have k1 : (op == [118,97,108,117,101]) = false:=g1
    have k2 : (op == [110,111,119]) = false:=g2
    have k3 : (op == [97,116,116,114]) = false:=g3
    have k4 : (op == [104,97,115]) = false:=g4
    have k5 : (op == [114,111,108,101]) = false:=g5
    have k6 : (op == [115,105,122,101]) = false:=g6
    have k7 : (op == [110,111,116]) = true:=g7
    simp +contextual (maxSteps:=10000000) only [c24,mkE,eL,eP,ps,k1,k2,k3,k4,k5,k6,k7,pcallG hM,φtk1,mkT,x2,ee,q1,q2,q3,go_sem]
    refine pcallN_of rfl h61p (r:=.sl none O) (by simp only [List.nil_append,List.append_nil,D.eraseL,D.erase,ee];exact pp) ?_
    simp +contextual (maxSteps:=10000000) only [mkT,sNot,pcallG hM,appK_tok0,appK_tok,hfit,List.set_cons_zero,List.set_cons_succ,go_sem]
    refine ⟨by omega,by omega,?_⟩
    have:=own (mkT 1 sNot 0 :: O) _ [] (isTks.cons _ _ _ hk) (Ext.of H [.row [.str op,.int .i64 k,.int .i64 i,.str t,sliceD nl l,.str who,.str name,sliceD m ps']])
    simpa [mkT,sNot,Nat.add_comm] using this
   rcases tf (eop e == sNeg) with g8 | g8
   ·rw [tokD_neg g1 g2 g3 g4 g5 g6 g7 g8] at hlen ⊢
    have ar : arN (eop e) = 1:=by rw [eq_of_beq' g8];decide
    obtain ⟨x,x1,x2,ee,q1,q2,q3,hk,_,pt⟩:=kid 0 (by omega)
    simp only [sub0,x1] at hlen ⊢
    simp only [List.length_cons] at hlen
    have pt:=pt 6 (by omega)
    have hk:=parW_tok (full:=full) (s:=stI (eop x)) (least:=6) hk
    obtain ⟨O,hO⟩ : ∃ z,parW full (stI (eop x)) 6 (tokD n full x) = z:=⟨_,rfl⟩
    simp only [hO] at pt hlen hk ⊢
    have hfit:=hk.fit
    have pp : (fun a=>(φparF n a).map (D.sl none)) [x,.int .i64 6,.bool full] = some (.sl none O):=by simp only [pt,Option.map_some]
    obtain ⟨op,k,i,t,nl,l,who,name,m,ps',rfl,h1,h2,h3,h4,h5,h6,eL,eP⟩:=isE_elim he
    simp only [eop_mk] at ps
    simp only [eps_mk] at x2
    have k1 : (op == [118,97,108,117,101]) = false:=g1
    have k2 : (op == [110,111,119]) = false:=g2
    have k3 : (op == [97,116,116,114]) = false:=g3
    have k4 : (op == [104,97,115]) = false:=g4
    have k5 : (op == [114,111,108,101]) = false:=g5
    have k6 : (op == [115,105,122,101]) = false:=g6
    have k7 : (op == [110,111,116]) = false:=g7
    have k8 : (op == [110,101,103]) = true:=g8
    simp +contextual (maxSteps:=10000000) only [c24,mkE,eL,eP,ps,k1,k2,k3,k4,k5,k6,k7,k8,pcallG hM,φtk1,mkT,x2,ee,q1,q2,q3,go_sem]
    refine pcallN_of rfl h61p (r:=.sl none O) (by simp only [List.nil_append,List.append_nil,D.eraseL,D.erase,ee];exact pp) ?_
    simp +contextual (maxSteps:=10000000) only [mkT,sNot,pcallG hM,appK_tok0,appK_tok,hfit,List.set_cons_zero,List.set_cons_succ,go_sem]
    refine ⟨by omega,by omega,?_⟩
    have:=own (mkT 5 [45] 0 :: O) _ [] (isTks.cons _ _ _ hk) (Ext.of H [.row [.str op,.int .i64 k,.int .i64 i,.str t,sliceD nl l,.str who,.str name,sliceD m ps']])
    simpa [mkT,sNot,Nat.add_comm] using this
   ·rw [tokD_two g1 g2 g3 g4 g5 g6 g7 g8] at hlen ⊢
    obtain ⟨t1,ar⟩:=two_op f1 g1 g2 g3 g4 g5 g6 g7 g8
    obtain ⟨x,x1,x2,ee,q1,q2,q3,hk,_,pt⟩:=kid 0 (by omega)
    obtain ⟨y,y1,y2,ef,s1,s2,s3,hj,_,pu⟩:=kid 1 (by omega)
    simp only [sub0,sub1,x1,y1] at hlen ⊢
    simp only [List.length_append,List.length_cons] at hlen
    have pt:=pt (lstS (eop e)) (by omega)
    have pu:=pu (stI (eop e) + 1) (by omega)
    have hk:=parW_tok (full:=full) (s:=stI (eop x)) (least:=lstS (eop e)) hk
    have hj:=parW_tok (full:=full) (s:=stI (eop y)) (least:=stI (eop e) + 1) hj
    obtain ⟨O,hO⟩ : ∃ z,parW full (stI (eop x)) (lstS (eop e)) (tokD n full x) = z:=⟨_,rfl⟩
    obtain ⟨U,hU⟩ : ∃ z,parW full (stI (eop y)) (stI (eop e) + 1) (tokD n full y) = z:=⟨_,rfl⟩
    simp only [hO,hU] at pt pu hlen hk hj ⊢
    have hf1:=hk.fit
    have hf2:=hj.fit
    have pO : ∀ H T,φOwn 3 (φparF n) H T [x,.int .i64 (lstS (eop e)),.bool full] = some (.sl (some T.length) O,H,T ++ [some (O.length,3)]):=fun H T=>by simp only [φOwn,pt]
    have pU : ∀ H T,φOwn 3 (φparF n) H T [y,.int .i64 (stI (eop e) + 1),.bool full] = some (.sl (some T.length) U,H,T ++ [some (U.length,3)]):=fun H T=>by simp only [φOwn,pu]
    have pin:=in_at (l:=opW) (by decide) (eop e)
    have hOT : isTks [opTok (eop e)]:=opTok_tok _ .nil
    have e3 : (stI (eop e) == 3) = true -> lstS (eop e) = 4:=fun h=>by unfold lstS;rw [if_pos h]
    have e4 : (stI (eop e) == 3) = false -> lstS (eop e) = stI (eop e):=fun h=>by unfold lstS;rw [if_neg (by rw [h];decide)]
    have wr : IntKind.i64.wrap (stI (eop e) + 1) = stI (eop e) + 1:=wrap_of _ (by omega) (by omega)
    obtain ⟨op,k,i,t,nl,l,who,name,m,ps',rfl,h1,h2,h3,h4,h5,h6,eL,eP⟩:=isE_elim he
    simp only [eop_mk] at ps pO pU pin hOT e3 e4 wr f1 ⊢
    simp only [eps_mk] at x2 y2
    have k1 : (op == [118,97,108,117,101]) = false:=g1
    have k2 : (op == [110,111,119]) = false:=g2
    have k3 : (op == [97,116,116,114]) = false:=g3
    have k4 : (op == [104,97,115]) = false:=g4
    have k5 : (op == [114,111,108,101]) = false:=g5
    have k6 : (op == [115,105,122,101]) = false:=g6
    have k7 : (op == [110,111,116]) = false:=g7
    have k8 : (op == [110,101,103]) = false:=g8
    obtain ⟨sv,hsv⟩ : ∃ z,stI op = z:=⟨_,rfl⟩
    obtain ⟨lv,hlv⟩ : ∃ z,lstS op = z:=⟨_,rfl⟩
    obtain ⟨ib,hib⟩ : ∃ z,inB opW op = z:=⟨_,rfl⟩
    have hot : opTok op = mkT (if ib then 1 else 5) op 0:=by unfold opTok;rw [hib];cases ib <;> rfl
    simp only [hsv,hlv,hib] at ps pO pU pin wr e3 e4
    simp only [opW,wOr,wAnd,sIn,List.map_cons,List.map_nil] at pin
    rw [hot]
    rw [W_part 6]
    obtain ⟨tl,htl⟩ : ∃ z,C.tl 6 c24 = z:=⟨_,rfl⟩
    rw [htl]
    obtain ⟨Q,hQ⟩ : ∃ Q,endQ [.inl 4] (LeavesG H T (D.sl (some (List.length T)) (O ++ mkT (if ib then 1 else 5) op 0 :: U)) H (T ++ [some ((O ++ mkT (if ib then 1 else 5) op 0 :: U).length,3)])) = Q:=⟨_,rfl⟩
    rw [hQ]
    have rest : ∀ t',t' 1 = .bool full -> t' 2 = .ptr H.length 0 -> t' 5 = .int .i64 sv -> t' 8 = .sl (some T.length) O -> W (XG Tryz.prog [61] [(52,φst),(59,φtk1 1),(60,φtk1 5),(62,φin)] [] [] [(24,φOwn 3 (φtokF n)),(58,φOwn 3 φlitk)]) tl Q
      ⟨t',H ++ [.row [.str op,.int .i64 k,.int .i64 i,.str t,sliceD nl l,.str who,.str name,sliceD m ps']],T ++ [some (O.length,3)]⟩:=by
     intro t' r1 r2 r5 r8
     rw [<- hQ]
     subst htl
     cases ib with
     | true =>
      simp +contextual (maxSteps:=10000000) only [c24,r1,r2,r5,r8,pin,pcallG hM,φtk1,mkT,y2,ef,s1,s2,s3,wr,appK_tok0,appK_tok,hf1,List.set_cons_zero,List.set_cons_succ,go_sem]
      refine ⟨by omega,by omega,?_⟩
      refine h61 _ _ _ _ _ _ (pU _ _) _ (by simp only [D.eraseL,D.erase,ef]) _ ?_
      simp +contextual (maxSteps:=10000000) only [appK_tok0,appK_tok,hf1,hf2,List.set_cons_zero,List.set_cons_succ,go_sem]
      refine ⟨by omega,by omega,by rw [List.all_append,hf1];rfl,?_⟩
      have:=own (O ++ mkT 1 op 0 :: U) _ [some (3,1),some (1,3),some (U.length,3)] (hk.app (isTks.cons _ _ _ hj)) (Ext.of H [.row [.str op,.int .i64 k,.int .i64 i,.str t,sliceD nl l,.str who,.str name,sliceD m ps'],.row [.int .i64 1,.str op,.int .i64 0]])
      simpa [mkT,Nat.add_assoc,Nat.add_comm,Nat.add_left_comm] using this
     | false =>
      simp +contextual (maxSteps:=10000000) only [c24,r1,r2,r5,r8,pin,pcallG hM,φtk1,mkT,y2,ef,s1,s2,s3,wr,appK_tok0,appK_tok,hf1,List.set_cons_zero,List.set_cons_succ,go_sem]
      refine ⟨by omega,by omega,?_⟩
      refine h61 _ _ _ _ _ _ (pU _ _) _ (by simp only [D.eraseL,D.erase,ef]) _ ?_
      simp +contextual (maxSteps:=10000000) only [appK_tok0,appK_tok,hf1,hf2,List.set_cons_zero,List.set_cons_succ,go_sem]
      refine ⟨by omega,by omega,by rw [List.all_append,hf1];rfl,?_⟩
      have:=own (O ++ mkT 5 op 0 :: U) _ [some (3,1),some (1,3),some (U.length,3)] (hk.app (isTks.cons _ _ _ hj)) (Ext.of H [.row [.str op,.int .i64 k,.int .i64 i,.str t,sliceD nl l,.str who,.str name,sliceD m ps'],.row [.int .i64 5,.str op,.int .i64 0]])
      simpa [mkT,Nat.add_assoc,Nat.add_comm,Nat.add_left_comm] using this
    rcases tf (sv == 3) with g | g
    ·rw [e3 g] at pO
     simp +contextual (maxSteps:=10000000) only [c24,mkE,eL,eP,ps,k1,k2,k3,k4,k5,k6,k7,k8,g,pcallG hM,x2,ee,q1,q2,q3,go_sem]
     refine h61 _ _ _ _ _ _ (pO _ _) _ (by simp only [D.eraseL,D.erase,ee]) _ ?_
     simp +contextual (maxSteps:=10000000) only [go_sem]
     refine rest _ ?_ ?_ ?_ ?_ <;> rfl
    ·rw [e4 g] at pO
     simp +contextual (maxSteps:=10000000) only [c24,mkE,eL,eP,ps,k1,k2,k3,k4,k5,k6,k7,k8,g,pcallG hM,x2,ee,q1,q2,q3,go_sem]
     refine h61 _ _ _ _ _ _ (pO _ _) _ (by simp only [D.eraseL,D.erase,ee]) _ ?_
     simp +contextual (maxSteps:=10000000) only [go_sem]
     refine rest _ ?_ ?_ ?_ ?_ <;> rfl
  ·cases h
 ·cases h
theorem ok24 : ∀ n,OkAtG Tryz.prog 24 (φOwn 3 (φtokF n))
 | 0=>fun H T args r H' T' h=>by
  unfold φOwn φtokF at h
  split at h
  ·rename_i hx
   split at hx
   ·split at hx
    ·rename_i hc;exact hc.1.elim
    ·cases hx
   ·cases hx
  ·cases h
 | n + 1=>ok24s (ok24 n) (ok61 (ok24 n))
end GP
namespace GP
open Go Go.Proofs
set_option maxRecDepth 100000
theorem isE_le {n m : Nat} (h : n <= m) {d : D} (hd : isE n d) : isE m d:=by
 induction h with
 | refl=>exact hd
 | step _ ih=>exact isE_mono ih
theorem isE_of {m : Nat} {op : List UInt8} {k i : Int} {s : List UInt8} {nl : Bool} {l : List D} {who name : List UInt8} {q : Bool} {ps : List D} (h1 : op.length <= 2 ^ 47) (h2 : who.length <= 2 ^ 47) (h3 : name.length <= 2 ^ 47) (h4 : isVr (mkV k i s nl l)) (h5 : ps.length <= 2 ^ 47) (h6 : ∀ x ∈ ps,isE m x) :
  isE (m + 1) (mkE op k i s nl l who name q ps):=⟨op,k,i,s,nl,l,who,name,q,ps,rfl,h1,h2,h3,h4,h5,h6⟩
theorem zero_isVr : isVr (mkV 0 0 [] true []):=⟨by decide,by decide,by decide⟩
theorem two_isE {m : Nat} {op : List UInt8} {x y : D} (ho : op.length <= 2 ^ 47) (hx : isE m x) (hy : isE m y) : isE (m + 1) (twoD op x y) :=
 isE_of (m:=m) (op:=op) (k:=0) (i:=0) (s:=[]) (nl:=true) (l:=[]) (who:=[]) (name:=[]) (q:=false) (ps:=[x,y]) ho (by simp) (by simp) zero_isVr (by simp) (fun z hz=>by
  simp only [List.mem_cons,List.not_mem_nil,or_false] at hz
  rcases hz with rfl | rfl
  ·exact hx
  ·exact hy)
theorem one_isE {m : Nat} {op : List UInt8} {x : D} (ho : op.length <= 2 ^ 47) (hx : isE m x) : isE (m + 1) (oneD op x) :=
 isE_of (m:=m) (op:=op) (k:=0) (i:=0) (s:=[]) (nl:=true) (l:=[]) (who:=[]) (name:=[]) (q:=false) (ps:=[x]) ho (by simp) (by simp) zero_isVr (by simp) (fun z hz=>by
  simp only [List.mem_cons,List.not_mem_nil,or_false] at hz
  rw [hz];exact hx)
theorem leaf_isE {op who name : List UInt8} (h1 : op.length <= 2 ^ 47) (h2 : who.length <= 2 ^ 47) (h3 : name.length <= 2 ^ 47) : isE 1 (leafD op who name) :=
 isE_of (m:=0) (op:=op) (k:=0) (i:=0) (s:=[]) (nl:=true) (l:=[]) (who:=who) (name:=name) (q:=true) (ps:=[]) h1 h2 h3 zero_isVr (by simp) (fun z hz=>by cases hz)
theorem val_isE {v : D} (h : isVr v) : isE 1 (valE v):=by
 obtain ⟨k,i,s,n,l,rfl,_⟩:=isV_elim h.1
 exact isE_of (m:=0) (op:=[118,97,108,117,101]) (k:=k) (i:=i) (s:=s) (nl:=n) (l:=l) (who:=[]) (name:=[]) (q:=true) (ps:=[]) (by simp) (by simp) (by simp) h (by simp) (fun z hz=>by cases hz)
theorem now_rng {toks : List D} (h : toks.all tokB = true) (st : St) : (ts (nowS toks st)).length <= 2 ^ 47 /\ -(2 ^ 63) <= tn (nowS toks st) /\ tn (nowS toks st) < 2 ^ 63:=by
 have key : nowS toks st = zT ∨ nowS toks st ∈ toks:=by
  unfold nowS nowP
  split
  ·exact .inl rfl
  ·split
   ·rename_i t ht
    split
    ·exact .inr (List.mem_of_getElem? ht)
    ·exact .inl rfl
   ·exact .inl rfl
 rcases key with e | e
 ·rw [e];exact ⟨by simp [zT,ts_mk],by simp [zT,tn_mk],by simp [zT,tn_mk]⟩
 ·have hb:=List.all_eq_true.1 h _ e
  obtain ⟨k,s,n,e',hs⟩:=tokB_elim hb
  rw [e'] at hb
  rw [e']
  exact ⟨hs,(tokB_range hb).2⟩
theorem kind_rng {toks : List D} (h : toks.all tokB = true) (k : Int) (st : St) : (ts (kindP toks k st).1).length <= 2 ^ 47 /\ -(2 ^ 63) <= tn (kindP toks k st).1 /\ tn (kindP toks k st).1 < 2 ^ 63:=by
 unfold kindP
 split
 ·exact ⟨by simp [zT,ts_mk],by simp [zT,tn_mk],by simp [zT,tn_mk]⟩
 ·exact now_rng h st
theorem name_rng {toks : List D} (h : toks.all tokB = true) (st : St) : (nameP toks st).1.length <= 2 ^ 47:=by
 unfold nameP
 split
 ·simp
 ·exact (now_rng h st).1
theorem firstP_mem {toks : List D} {st : St} : ∀ {ws : List (List UInt8)} {w : List UInt8},firstP toks st ws = some w -> w ∈ ws
 | [],w,h=>by cases h
 | x :: r,w,h=>by
  simp only [firstP] at h
  split at h
  ·injection h with h;subst h;simp
  ·exact List.mem_cons_of_mem _ (firstP_mem h)
theorem one_rng (toks : List D) (ws : List (List UInt8)) (hw : ∀ w ∈ ws,w.length <= 2 ^ 47) (st : St) : (oneP toks ws st).1.length <= 2 ^ 47:=by
 unfold oneP
 split
 ·rename_i w h;exact hw w (firstP_mem h)
 ·simp
theorem attr_rng {toks : List D} (h : toks.all tokB = true) (st : St) : (attrP toks st).1.length <= 2 ^ 47 /\ (attrP toks st).2.1.length <= 2 ^ 47:=by
 unfold attrP
 exact ⟨one_rng toks whoW (by decide) st,name_rng h _⟩
theorem wrap_rng (n : Int) : -(2 ^ 63) <= IntKind.i64.wrap n /\ IntKind.i64.wrap n < 2 ^ 63:=by
 rw [IntKind.wrap_i64];omega
theorem num_isVr {n : Int} (h : -(2 ^ 63) <= n /\ n < 2 ^ 63) : isVr (num n):=⟨rfl,h.1,h.2⟩
theorem lit_isVr {toks : List D} (h : toks.all tokB = true) (st : St) : isVr (literalP toks st).1:=by
 have hr:=now_rng h st
 unfold literalP
 split
 ·exact num_isVr hr.2
 split
 ·refine ⟨?_,by simp [textV,vi],by simp [textV,vi]⟩
  simp only [textV,D.isV,D.isVs,Bool.and_true,decide_eq_true_eq]
  have:=hr.1
  simp only [List.length_take]
  omega
 split
 ·exact ⟨rfl,hr.2.1,hr.2.2⟩
 split
 ·refine ⟨rfl,?_,?_⟩ <;> (simp only [truthV,vi];split <;> decide)
 ·exact zero_isVr
theorem item_isVr {toks : List D} (h : toks.all tokB = true) (st : St) : isVr (itemP toks st).1:=by
 unfold itemP
 split
 ·exact num_isVr (wrap_rng _)
 split
 ·exact lit_isVr h st
 ·exact lit_isVr h st
theorem bagL_isVr {toks : List D} (h : toks.all tokB = true) : ∀ (f : Nat) (out : List D) (st : St) (r : List D × St),(∀ v ∈ out,isVr v) -> bagL toks f out st = some r -> ∀ v ∈ r.1,isVr v
 | 0,_,_,_,_,h'=>by simp [bagL] at h'
 | f + 1,out,st,r,ho,h'=>by
  simp only [bagL] at h'
  split at h'
  ·exact bagL_isVr h f _ _ r (fun v hv=>by
    rcases List.mem_append.1 hv with hv | hv
    ·exact ho v hv
    ·rw [List.mem_singleton] at hv;subst hv;exact item_isVr h _) h'
  ·injection h' with h';subst h';exact ho
theorem bagV_isVr {xs : List D} (h : ∀ x ∈ xs,isVr x) : isVr (bagV xs).1:=by
 unfold bagV
 split
 ·exact zero_isVr
 split
 ·exact zero_isVr
 split
 ·exact zero_isVr
 ·rename_i g1 g2 g3
  simp only [Bool.not_eq_false] at g1
  have hg : good1 xs:=fun x hx=>by
   have hf:=List.all_eq_true.1 g1 x hx
   rw [formed_same] at hf
   have hb : badB xs x = false:=by
    cases hb : badB xs x with
    | false=>rfl
    | true=>exact absurd (List.any_eq_true.2 ⟨x,hx,hb⟩) g2
   unfold formedB at hf
   rw [if_pos (by unfold badB at hb;simp only [Bool.or_eq_false_iff,beq_eq_false_iff_ne,ne_eq] at hb;simp [hb.1.2])] at hf
   exact hf
  refine ⟨?_,by simp [vi_mk],by simp [vi_mk]⟩
  have hm:=(bagR_spec hg).2
  have hlen : (bagR xs).length <= 16:=by simp only [decide_eq_true_eq] at g3;omega
  have hv : D.isVs (bagR xs) = true:=isVs_iff.2 fun y hy=>by
   obtain ⟨x,hx,rfl⟩:=(hm y).1 hy
   obtain ⟨k,i,s,n,l,rfl,h1,_,_⟩:=isV_elim (h x hx).1
   simp only [can,vk_mk,vi_mk,vs_mk]
   simp [mkV,D.isV,D.isVs,sliceD,h1]
  simp only [mkV,sliceD,Bool.false_and,Bool.false_eq_true,if_false,D.isV,hv,Bool.and_true,Bool.and_eq_true,decide_eq_true_eq]
  exact ⟨by simp,by omega⟩
def lvB : Nat -> Nat
 | 0=>2
 | f + 1=>lvB f + f + 3
theorem lvB_le : ∀ f,lvB f <= (f + 2) * (f + 2)
 | 0=>by decide
 | f + 1=>by
  have:=lvB_le f
  have e : (f + 1 + 2) * (f + 1 + 2) = (f + 2) * (f + 2) + 2 * (f + 2) + 1:=by
   simp only [Nat.add_mul,Nat.mul_add];omega
  simp only [lvB];omega
theorem lvB_1 (f : Nat) : 1 <= lvB f:=by cases f <;> simp [lvB]
def partE (m : Nat) (P : Part) : Prop:=∀ toks st r,toks.all tokB = true -> P toks st = some r -> isE m r.1
theorem rowL_isE {m : Nat} {P : Part} (hP : partE m P) {toks : List D} (ht : toks.all tokB = true) {bs : List (List UInt8)} (hb : ∀ w ∈ bs,w.length <= 2 ^ 47) : ∀ (f : Nat) (M : Nat) (x : D) (st : St) (r : D × St),m <= M -> isE M x -> rowL toks P bs f x st = some r -> isE (M + f) r.1
 | 0,_,_,_,_,_,_,h=>by simp [rowL] at h
 | f + 1,M,x,st,r,hm,hx,h=>by
  simp only [rowL] at h
  split at h
  ·injection h with h;subst h;exact isE_le (by omega) hx
  ·split at h
   ·injection h with h;subst h;exact isE_le (by omega) hx
   ·rename_i w hw
    split at h
    ·cases h
    ·rename_i y st2 hy
     have:=rowL_isE hP ht hb f (M + 1) _ st2 r (by omega) (two_isE (hb w (firstP_mem hw)) hx (isE_le hm (hP toks _ _ ht hy))) h
     exact isE_le (by omega) this
theorem rowP_isE {m : Nat} {P : Part} (hP : partE m P) {toks : List D} (ht : toks.all tokB = true) {bs : List (List UInt8)} (hb : ∀ w ∈ bs,w.length <= 2 ^ 47) {f : Nat} {st : St} {r : D × St} (h : rowP toks P bs f st = some r) : isE (m + f) r.1:=by
 unfold rowP at h
 split at h
 ·cases h
 ·rename_i x st1 hx
  exact rowL_isE hP ht hb f m x st1 r (Nat.le_refl _) (hP toks _ _ ht hx) h
theorem oneS_isE {m : Nat} {op : List UInt8} (ho : op.length <= 2 ^ 47) {z : Option (D × St)} {r : D × St} (hz : ∀ r,z = some r -> isE m r.1) (h : oneS op z = some r) : isE (m + 1) r.1:=by
 cases z with
 | none=>cases h
 | some z =>
  obtain ⟨x,st⟩:=z
  simp only [oneS,Option.some.injEq] at h;subst h
  exact one_isE ho (hz _ rfl)
theorem bagP_isE {toks : List D} (ht : toks.all tokB = true) {f fr : Nat} {st : St} {r : D × St} (h : bagP toks f fr st = some r) : isE 1 r.1:=by
 unfold bagP at h
 split at h
 ·cases h
 ·rename_i out st1 hb
  have hv:=bagL_isVr ht f _ _ _ (fun v hv=>by rw [List.mem_singleton] at hv;subst hv;exact item_isVr ht st) hb
  split at h
  ·injection h with h;subst h
   exact isE_of (m:=0) (op:=[]) (k:=0) (i:=0) (s:=[]) (nl:=true) (l:=[]) (who:=[]) (name:=[]) (q:=true) (ps:=[]) (by simp) (by simp) (by simp) zero_isVr (by simp) (fun z hz=>by cases hz)
  ·injection h with h;subst h
   exact val_isE (bagV_isVr hv)
theorem lv_isE : ∀ (f : Nat) (lv : Lv),partE (lvB f) (pLv f lv)
 | 0,_,_,_,_,_,h=>by cases h
 | f + 1,lv,toks,st,r,ht,h=>by
  have h1:=lvB_1 f
  cases lv with
  | expr=>exact isE_le (by simp only [lvB];omega) (rowP_isE (lv_isE f .and) ht (by decide) h)
  | and=>exact isE_le (by simp only [lvB];omega) (rowP_isE (lv_isE f .not) ht (by decide) h)
  | sum=>exact isE_le (by simp only [lvB];omega) (rowP_isE (lv_isE f .prod) ht (by decide) h)
  | prod=>exact isE_le (by simp only [lvB];omega) (rowP_isE (lv_isE f .unary) ht (by decide) h)
  | not =>
   simp only [pLv] at h
   split at h
   ·exact isE_le (by simp only [lvB];omega) (oneS_isE (by decide) (fun r hr=>lv_isE f .not toks _ r ht hr) h)
   ·exact isE_le (by simp only [lvB];omega) (lv_isE f .cmp toks st r ht h)
  | unary =>
   simp only [pLv] at h
   split at h
   ·exact isE_le (by simp only [lvB];omega) (oneS_isE (by decide) (fun r hr=>lv_isE f .unary toks _ r ht hr) h)
   ·exact isE_le (by simp only [lvB];omega) (lv_isE f .plain toks st r ht h)
  | cmp =>
   simp only [pLv] at h
   obtain ⟨z,hz⟩ : ∃ z,pLv f .sum toks st = z:=⟨_,rfl⟩
   rw [hz] at h
   cases z with
   | none=>cases h
   | some z =>
    obtain ⟨x,st1⟩:=z
    have hx:=lv_isE f .sum toks _ _ ht hz
    simp only [cmpS2] at h
    split at h
    ·injection h with h;subst h;exact isE_le (by simp only [lvB];omega) hx
    ·rename_i w hw
     split at h
     ·cases h
     ·rename_i y st2 hy
      injection h with h;subst h
      have hw : w.length <= 2 ^ 47:=by
       have : ∀ w ∈ cmpW,w.length <= 2 ^ 47:=by decide
       exact this w (firstP_mem hw)
      exact isE_le (by simp only [lvB];omega) (two_isE hw hx (lv_isE f .sum toks _ _ ht hy))
  | inner =>
   simp only [pLv] at h
   obtain ⟨z,hz⟩ : ∃ z,pLv f .expr toks (mustP toks [40] st) = z:=⟨_,rfl⟩
   rw [hz] at h
   cases z with
   | none=>cases h
   | some z =>
    obtain ⟨x,st1⟩:=z
    simp only [innS,Option.some.injEq] at h;subst h
    exact isE_le (by simp only [lvB];omega) (lv_isE f .expr toks _ (x,st1) ht hz)
  | plain =>
   have up : ∀ {x : D},isE 1 x -> isE (lvB (f + 1)) x:=fun h=>isE_le (by simp only [lvB];omega) h
   simp only [pLv,plainP] at h
   split at h
   ·injection h with h;subst h;exact up (val_isE (lit_isVr ht st))
   split at h
   ·injection h with h;subst h;exact up (leaf_isE (by decide) (by simp) (by simp))
   split at h
   ·exact isE_le (by simp only [lvB];omega) (lv_isE f .inner toks st r ht h)
   split at h
   ·exact up (bagP_isE ht h)
   split at h
   ·exact isE_le (by simp only [lvB];omega) (oneS_isE (by decide) (fun r hr=>lv_isE f .inner toks _ r ht hr) h)
   split at h
   ·injection h with h;subst h;exact up (leaf_isE (by decide) (by simp) (kind_rng ht _ _).1)
   split at h
   ·injection h with h;subst h;exact up (leaf_isE (by decide) (attr_rng ht _).1 (attr_rng ht _).2)
   ·injection h with h;subst h;exact up (leaf_isE (by decide) (attr_rng ht _).1 (attr_rng ht _).2)
def nodeB : Nat:=lvB 10000
theorem nodeB_le : nodeB <= 2 ^ 40:=by
 have:=lvB_le 10000
 unfold nodeB;omega
def parseE (toks : List D) : D × Nat × Int :=
 if 600 < toks.length then (zeroE,0,13) else match pLv 10000 .expr toks (0,0) with
 | none=>(zeroE,0,0)
 | some (x,st)=>if (endP toks st).2 != 0 then (zeroE,(endP toks st).1,(endP toks st).2) else if 12 < dpt nodeB x then (zeroE,0,11) else (x,0,0)
def φparse : List D -> Option D
 | [l]=>if isSl l && (elems l).all tokB && decide ((elems l).length <= 2 ^ 40) then some (.tup [(parseE (elems l)).1,.int .i64 ((parseE (elems l)).2.1 : Nat),.int .i64 (parseE (elems l)).2.2]) else none
 | _=>none
theorem φC_own {A B : Hp} {n : Bool} {xs : List D} (htk : xs.all tokB = true) (hl : xs.length <= 600) (g : GE) (rest : List D) (a : Nat) (e : Int) {r : D} {a' : Nat} {e' : Int} (h : g rest xs a e = some (r,a',e')) :
  φC g (A ++ .row [sliceD n xs,.int .i64 (a : Nat),.int .i64 e] :: B) (.ptr A.length 0 :: rest) = some (r,A ++ .row [sliceD n xs,.int .i64 (a' : Nat),.int .i64 e'] :: B):=by
 have hp : A.length < (A ++ [Ob.row [sliceD n xs,.int .i64 (a : Nat),.int .i64 e]]).length:=by simp
 have st : ∀ c,(A ++ [Ob.row [sliceD n xs,.int .i64 (a : Nat),.int .i64 e]]).set A.length c = A ++ [c]:=fun c=>by
  rw [List.set_append_right _ _ (Nat.le_refl _)];simp
 have:=φC_at (n:=n) hp htk hl g rest a e B
 rw [h] at this
 simp only [cuR] at this
 rw [st,st] at this
 simpa using this
set_option maxHeartbeats 4000000 in
theorem ok19 : OkAt Tryz.prog 19 φparse:=by
 refine okF_of (l:=[(26,φdpt nodeB)]) (m:=[]) (e:=[(49,φC (gOf (pLv 10000 .expr))),(50,φC gEnd)]) (.cons (ok26 nodeB nodeB_le) .nil) .nil (.cons (okLv 10000 (by omega)).1 (.cons ok50 .nil)) fn19 fun args r h=>?_
 have hM : MonoH []:=.nil
 unfold φparse at h
 split at h
 ·rename_i l
  split at h
  ·rename_i hc
   simp only [Bool.and_eq_true,decide_eq_true_eq] at hc
   obtain ⟨⟨hs,htk⟩,hlen⟩:=hc
   obtain ⟨n,hn⟩:=isSl_elim hs
   injection h with h;subst h
   obtain ⟨xs,hx⟩ : ∃ xs,elems l = xs:=⟨_,rfl⟩
   rw [hx] at htk hlen hn ⊢
   subst hn
   refine ⟨by simp,?_,fun H T=>?_⟩
   ·have hz : ∀ i : Int,∀ k : Int,(D.tup [zeroE,.int .i64 k,.int .i64 i]).cl 0 0 = true:=fun _ _=>rfl
    unfold parseE
    split
    ·exact hz _ _
    ·split
     ·exact hz _ _
     ·rename_i x st hp
      have hx8:=(lv_ex8 10000 .expr xs (0,0) _ htk hp).2.2
      simp only at hx8
      split
      ·exact hz _ _
      ·split
       ·exact hz _ _
       ·simp only [D.cl,D.clL,hx8,Bool.and_self]
   rcases tf (decide ((600 : Int) < xs.length)) with g | g
   ·have e0 : parseE xs = (zeroE,0,13):=by unfold parseE;rw [if_pos (by simp only [decide_eq_true_eq] at g;omega)]
    rw [e0]
    simp +contextual (maxSteps:=10000000) only [c19,g,zeroE,go_sem]
    exact lvM
   ·have hl : xs.length <= 600:=by simp only [decide_eq_false_iff_not] at g;omega
    obtain ⟨x,⟨a,e⟩,hp⟩:=expr_tot xs hl
    have hx8:=lv_ex8 10000 .expr xs (0,0) _ htk hp
    have hxE : isE nodeB x:=lv_isE 10000 .expr xs (0,0) _ htk hp
    simp only at hx8
    have g1 : gOf (pLv 10000 .expr) [] xs 0 0 = some (x,a,e):=hp
    obtain ⟨⟨a2,e2⟩,he2⟩ : ∃ st,endP xs (a,e) = st:=⟨_,rfl⟩
    have g2 : gEnd [] xs a e = some (if e2 == 0 then .tup [.int .i64 0,.int .i64 0] else .tup [.int .i64 (a2 : Nat),.int .i64 e2],a2,e2):=by
     simp only [gEnd,he2]
    have c1:=φC_own (n:=n) (A:=H ++ [.row [.str [],.int .i64 0,.int .i64 0,.str [],.nils,.str [],.str [],.nils]]) (B:=[]) htk hl _ [] 0 0 g1
    have c2:=fun B=>φC_own (n:=n) (A:=H ++ [.row [.str [],.int .i64 0,.int .i64 0,.str [],.nils,.str [],.str [],.nils]]) (B:=B) htk hl _ [] a e g2
    simp only [List.length_append,List.length_cons,List.length_nil,List.append_assoc,List.cons_append,List.nil_append,Nat.zero_add] at c1 c2
    rw [show ((0 : Nat) : Int) = 0 from rfl] at c1
    have pd : φdpt nodeB [x] = some (.int .i64 ((dpt nodeB x : Nat) : Int)):=by simp only [φdpt];rw [if_pos hxE]
    have e1 : parseE xs = if e2 != 0 then (zeroE,a2,e2) else if 12 < dpt nodeB x then (zeroE,0,11) else (x,0,0):=by
     unfold parseE;rw [if_neg (by omega),hp];simp only [he2]
    rw [e1]
    have ee:=hx8.2.1
    have htq:=toksB_erase htk
    obtain ⟨⟨b0,b1,b2,b3,b4,b5,b6,b7,rfl⟩,_,_⟩:=hx8
    rcases tf (e2 != 0) with g3 | g3
    ·have g3' : (e2 == 0) = false:=by simpa using g3
     rw [g3'] at c2
     simp only [Bool.false_eq_true,if_false] at c2
     rw [if_pos g3]
     simp +contextual (maxSteps:=10000000) only [c19,g,c1,c2,g3,zeroE,htq,go_sem]
     exact lvM
    ·have g3' : (e2 == 0) = true:=by simpa using g3
     rw [g3'] at c2
     simp only [if_true] at c2
     rw [if_neg (by rw [g3];decide)]
     have g0 : ((0 : Int) != 0) = false:=rfl
     rcases tf (decide ((12 : Int) < (dpt nodeB (.agg [b0,b1,b2,b3,b4,b5,b6,b7]) : Nat))) with g4 | g4
     ·rw [if_pos (by simp only [decide_eq_true_eq] at g4;omega)]
      simp +contextual (maxSteps:=10000000) only [c19,g,c1,c2,g0,zeroE,htq,pd,pcallE hM,ee,g4,go_sem]
      exact lvM
     ·rw [if_neg (by simp only [decide_eq_false_iff_not] at g4;omega)]
      simp +contextual (maxSteps:=10000000) only [c19,g,c1,c2,g0,zeroE,htq,pd,pcallE hM,ee,g4,go_sem]
      refine leavesE_mk ?_ ⟨_,rfl⟩ ⟨[],by simp⟩
      simp only [D.erase,D.eraseL] at ee ⊢
      rw [ee]
  ·cases h
 ·cases h
end GP
namespace GP
open Go Go.Proofs
set_option maxRecDepth 100000
theorem mxd_congr {f g : D -> Nat} : ∀ {l : List D},(∀ x ∈ l,f x = g x) -> mxd f l = mxd g l:=by
 have key : ∀ (l : List D) (a : Nat),(∀ x ∈ l,f x = g x) -> l.foldl (fun a x=>max a (f x)) a = l.foldl (fun a x=>max a (g x)) a:=by
  intro l
  induction l with
  | nil=>intro a _;rfl
  | cons x l ih =>
   intro a h
   simp only [List.foldl_cons,h x (by simp)]
   exact ih _ fun y hy=>h y (by simp [hy])
 intro l h
 exact key l 0 h
theorem isE_eps {n : Nat} {e : D} (h : isE (n + 1) e) : ∀ x ∈ eps e,isE n x:=by
 obtain ⟨op,k,i,t,nl,l,who,name,m,ps,rfl,_,_,_,_,_,h6,_⟩:=isE_elim h
 rw [eps_mk];exact h6
theorem dpt_S : ∀ (n : Nat) (e : D),isE n e -> dpt (n + 1) e = dpt n e
 | 0,_,h=>h.elim
 | n + 1,e,h=>by
  show mxd (dpt (n + 1)) (eps e) + 1 = mxd (dpt n) (eps e) + 1
  rw [mxd_congr fun x hx=>dpt_S n x (isE_eps h x hx)]
theorem dpt_fuel {n m : Nat} {e : D} (h : isE n e) (hm : n <= m) : dpt m e = dpt n e:=by
 induction hm with
 | refl=>rfl
 | step hm ih=>rw [dpt_S _ e (isE_le hm h),ih]
def awakeS : List UInt8:=[49,32,43,32,50,32,42,32,51]
def awakeT : List D:=[mkT 2 [] 1,mkT 5 [43] 0,mkT 2 [] 2,mkT 5 [42] 0,mkT 2 [] 3]
theorem awake_lex : lexP awakeS = (awakeT,0,0):=by kernel_rfl
def awakeE : D:=twoD [43] (valE (num 1)) (twoD [42] (valE (num 2)) (valE (num 3)))
theorem awake_lv : pLv 10000 .expr awakeT (0,0) = some (awakeE,(5,0)):=by kernel_rfl
theorem awakeE_isE : isE 3 awakeE :=
 two_isE (by decide) (isE_le (by omega) (val_isE (num_isVr (by decide)))) (two_isE (by decide) (val_isE (num_isVr (by decide))) (val_isE (num_isVr (by decide))))
theorem awake_parse : parseE awakeT = (awakeE,0,0):=by
 have h1 : dpt nodeB awakeE = 3:=by
  rw [dpt_fuel awakeE_isE (by have:=lvB_1 9999;unfold nodeB;show 3 <= lvB 9999 + 9999 + 3;omega)]
  decide
 unfold parseE
 rw [if_neg (by decide),awake_lv]
 simp only [h1]
 rfl
def φtrueE : List D -> Option D
 | []=>some (.bool true)
 | _=>none
theorem ok18 : OkAt Tryz.prog 18 φtrueE:=by
 refine ok_of (l:=[(40,φlex),(19,φparse)]) (.cons ok40 (.cons ok19 .nil)) fn18 fun args r h=>?_
 unfold φtrueE at h
 split at h
 ·injection h with h;subst h
  refine ⟨by simp,by simp [D.cl],fun H T=>?_⟩
  have p1 : φlex [.str awakeS] = some (.tup [.sl none awakeT,.int .i64 0,.int .i64 0]):=by
   simp only [φlex]
   rw [if_pos (by decide),awake_lex];rfl
  have p2 : φparse [.sl none awakeT] = some (.tup [awakeE,.int .i64 0,.int .i64 0]):=by
   simp only [φparse]
   rw [if_pos (by decide)]
   show some (D.tup [(parseE awakeT).1,_,_]) = _
   rw [awake_parse];rfl
  simp only [awakeS,awakeT,mkT,awakeE,twoD,valE,num,D.cells,List.cons_append,List.nil_append] at p1 p2
  simp +contextual (maxSteps:=10000000) only [c18,p1,p2,go_sem]
 ·cases h
theorem keptB_in (s : List UInt8) : keptB s = inB keptW s:=by
 unfold keptB inB
 congr 1;funext x;rw [Bool.eq_iff_iff];simp only [beq_iff_eq];exact ⟨fun h=>h.symm,fun h=>h.symm⟩
end GP
namespace GP
open Go Go.Proofs
set_option maxRecDepth 100000
def okZ (f : D -> D -> Bool) (xs ys : List D) (i : Nat) : Bool:=match xs[i]?,ys[i]? with
 | some x,some y=>f x y
 | _,_=>true
def allZ (f : D -> D -> Bool) (xs ys : List D) : Bool:=if xs.length == ys.length then (List.range xs.length).all (okZ f xs ys) else false
def sameE : Nat -> D -> D -> Bool
 | 0,_,_=>false
 | n + 1,a,b=>if (eop a != eop b) || (ewho a != ewho b) || (ename a != ename b) || !sameB (eV a) (eV b) then false else allZ (sameE n) (eps a) (eps b)
open Classical in
noncomputable def φsv (n : Nat) : List D -> Option D
 | [x,y]=>if isE n x /\ isE n y then some (.bool (sameB (eV x) (eV y))) else none
 | _=>none
theorem ok51 (n : Nat) : OkAt Tryz.prog 51 (φsv n):=by
 refine ok_of (l:=[(54,φSame)]) (.cons ok54 .nil) fn51 fun args r h=>?_
 unfold φsv at h
 split at h
 ·rename_i x y
  split at h
  ·rename_i hc
   injection h with h;subst h
   refine ⟨by simp,by simp [D.cl],fun H T=>?_⟩
   obtain ⟨op,k,i,t,nl,l,who,name,m,ps,rfl,h1,h2,h3,h4,h5,h6,eL,eP⟩:=isE_elim hc.1
   obtain ⟨op',k',i',t',nl',l',who',name',m',ps',rfl,h1',h2',h3',h4',h5',h6',eL',eP'⟩:=isE_elim hc.2
   have p:=same_at h4.1 h4'.1
   simp only [eV_mk]
   obtain ⟨sb,hsb⟩ : ∃ z,sameB (mkV k i t nl l) (mkV k' i' t' nl' l') = z:=⟨_,rfl⟩
   simp only [hsb] at p ⊢
   simp only [mkV] at p
   simp +contextual (maxSteps:=10000000) only [c51,mkE,eL,eL',eP,eP',p,go_sem]
  ·cases h
 ·cases h
open Classical in
noncomputable def φsmE (n : Nat) : List D -> Option D
 | [x,y]=>if isE n x /\ isE n y then some (.bool (sameE n x y)) else none
 | _=>none
set_option maxHeartbeats 4000000 in
theorem ok20 : ∀ n,OkAt Tryz.prog 20 (φsmE n)
 | 0=>fun args r h=>by
  unfold φsmE at h
  split at h
  ·split at h
   ·rename_i h';exact h'.1.elim
   ·cases h
  ·cases h
 | n + 1=>by
  refine ok_of (l:=[(51,φsv (n + 1)),(20,φsmE n)]) (.cons (ok51 (n + 1)) (.cons (ok20 n) .nil)) fn20 fun args r h=>?_
  unfold φsmE at h
  split at h
  ·rename_i x y
   split at h
   ·rename_i hc
    injection h with h;subst h
    refine ⟨by simp,by simp [D.cl],fun H T=>?_⟩
    have psv : φsv (n + 1) [x,y] = some (.bool (sameB (eV x) (eV y))):=by simp only [φsv];rw [if_pos hc]
    obtain ⟨op,k,i,t,nl,l,who,name,m,ps,rfl,h1,h2,h3,h4,h5,h6,eL,eP⟩:=isE_elim hc.1
    obtain ⟨op',k',i',t',nl',l',who',name',m',ps',rfl,h1',h2',h3',h4',h5',h6',eL',eP'⟩:=isE_elim hc.2
    have h6 : ∀ x ∈ ps,isE n x:=h6
    have h6' : ∀ x ∈ ps',isE n x:=h6'
    have hS : sameE (n + 1) (mkE op k i t nl l who name m ps) (mkE op' k' i' t' nl' l' who' name' m' ps') = if (op != op') || (who != who') || (name != name') || !sameB (mkV k i t nl l) (mkV k' i' t' nl' l') then false else allZ (sameE n) ps ps':=by
     simp only [sameE,eop_mk,ewho_mk,ename_mk,eV_mk,eps_mk]
    rw [hS]
    clear hS
    simp only [eV_mk] at psv
    obtain ⟨sb,hsb⟩ : ∃ z,sameB (mkV k i t nl l) (mkV k' i' t' nl' l') = z:=⟨_,rfl⟩
    simp only [hsb] at psv ⊢
    simp only [mkE] at psv
    have bl:=bne_len ps.length ps'.length
    rcases tf (op != op') with g1 | g1
    ·rw [g1];simp +contextual (maxSteps:=10000000) only [c20,mkE,eL,eL',eP,eP',g1,go_sem]
    rcases tf (who != who') with g2 | g2
    ·rw [g1,g2];simp +contextual (maxSteps:=10000000) only [c20,mkE,eL,eL',eP,eP',g1,g2,go_sem]
    rcases tf (name != name') with g3 | g3
    ·rw [g1,g2,g3];simp +contextual (maxSteps:=10000000) only [c20,mkE,eL,eL',eP,eP',g1,g2,g3,go_sem]
    rw [g1,g2,g3]
    cases sb with
    | false=>simp +contextual (maxSteps:=10000000) only [c20,mkE,eL,eL',eP,eP',g1,g2,g3,psv,go_sem]
    | true =>
    rcases tf (ps.length == ps'.length) with g4 | g4
    ·rw [g4] at bl
     have hZ : allZ (sameE n) ps ps' = (List.range ps.length).all (okZ (sameE n) ps ps'):=by unfold allZ;rw [if_pos g4]
     rw [hZ]
     have hl : ps.length = ps'.length:=by simpa using g4
     simp +contextual (maxSteps:=10000000) only [c20,mkE,eL,eL',eP,eP',g1,g2,g3,psv,bl,go_sem]
     refine W_for (fun j s'=>s'.t 2 = .ptr H.length 0 /\ s'.t 3 = .ptr (H.length + 1) 0 /\ s'.t 5 = .int .i64 j /\ s'.H = H ++ [.row [.str op,.int .i64 k,.int .i64 i,.str t,sliceD nl l,.str who,.str name,sliceD m ps],.row [.str op',.int .i64 k',.int .i64 i',.str t',sliceD nl' l',.str who',.str name',sliceD m' ps']] /\ s'.T = T /\ j <= ps.length /\ (List.range j).all (okZ (sameE n) ps ps') = true) ps.length ⟨0,by simp [upd,argT]⟩ (fun i s h=>h.2.2.2.2.2.1) ?_ (XL_mono _)
     rintro j ⟨t1,B,T'⟩ ⟨r2,r3,r5,rfl,rfl,hj,hc'⟩
     simp only at r2 r3 r5
     by_cases ha : j < ps.length
     ·have d1 : decide ((j : Int) < ps.length) = true:=by simpa using ha
      have hb : j < ps'.length:=by omega
      have hx:=h6 _ (List.getElem_mem ha)
      have hy:=h6' _ (List.getElem_mem hb)
      have ex : ps[j]? = some ps[j]:=by simp [ha]
      have ey : ps'[j]? = some ps'[j]:=by simp [hb]
      have G : okZ (sameE n) ps ps' j = sameE n ps[j] ps'[j]:=by simp only [okZ,ex,ey]
      have bad : okZ (sameE n) ps ps' j = false -> (List.range ps.length).all (okZ (sameE n) ps ps') = false:=fun h=>range_false_of h ha
      rw [G] at bad
      obtain ⟨x,hX⟩ : ∃ x,ps[j] = x:=⟨_,rfl⟩
      obtain ⟨y,hY⟩ : ∃ y,ps'[j] = y:=⟨_,rfl⟩
      rw [hX] at hx ex G bad
      rw [hY] at hy ey G bad
      have ee:=isE_erase hx
      have ef:=isE_erase hy
      obtain ⟨q1,q2,q3,q4⟩:=isE_cells hx
      obtain ⟨s1,s2,s3,s4⟩:=isE_cells hy
      have px : φsmE n [x,y] = some (.bool (sameE n x y)):=by simp only [φsmE];rw [if_pos ⟨hx,hy⟩]
      obtain ⟨b,hq⟩ : ∃ z,sameE n x y = z:=⟨_,rfl⟩
      simp only [hq] at px G bad
      cases b with
      | true =>
       simp +contextual (maxSteps:=10000000) only [r2,r3,r5,d1,ex,ey,ee,ef,q1,q2,q3,q4,s1,s2,s3,s4,px,wrap_succ j (by omega),go_sem]
       refine ⟨by omega,?_⟩
       rw [List.all_append,hc']
       simp [G]
      | false =>
       have bad:=bad rfl
       simp +contextual (maxSteps:=10000000) only [r2,r3,r5,d1,ex,ey,ee,ef,q1,q2,q3,q4,s1,s2,s3,s4,px,bad,go_sem]
     ·have d1 : decide ((j : Int) < ps.length) = false:=by simpa using ha
      have : j = ps.length:=by omega
      subst this
      simp +contextual (maxSteps:=10000000) only [r2,r3,r5,d1,hc',go_sem]
    ·rw [g4] at bl
     have hZ : allZ (sameE n) ps ps' = false:=by unfold allZ;rw [if_neg (by rw [g4];decide)]
     rw [hZ]
     simp +contextual (maxSteps:=10000000) only [c20,mkE,eL,eL',eP,eP',g1,g2,g3,psv,bl,go_sem]
   ·cases h
  ·cases h
def pkB (x : D) : Bool:=((tk x == 1) && (ts x != wTrue) && (ts x != wFalse)) || ((tk x == 5) && ((ts x == [46]) || (ts x == [43]) || (ts x == [42]) || (ts x == [60]) || (ts x == [91])))
def cntP (l : List D) : Nat:=(l.filter pkB).length
end GP
namespace GP
open Go Go.Proofs
set_option maxRecDepth 100000
def isTr (x : D) : Prop:=∃ n,isE n x
theorem sub_size {op : List UInt8} {k i : Int} {s : List UInt8} {nl : Bool} {l : List D} {who name : List UInt8} {m : Bool} {ps : List D} {y : D} (h : y ∈ ps) : sizeOf y < sizeOf (mkE op k i s nl l who name m ps):=by
 have h1:=List.sizeOf_lt_of_mem h
 have h2 : sliceD m ps = .sl none ps:=by
  rcases sliceD_cases m ps with ⟨_,e⟩ | e
  ·subst e;cases h
  ·exact e
 simp only [mkE,h2,D.agg.sizeOf_spec,List.cons.sizeOf_spec,D.sl.sizeOf_spec]
 omega
theorem isE_can : ∀ (n : Nat) (x : D),isE n x -> isE (sizeOf x) x
 | 0,_,h=>h.elim
 | n + 1,x,⟨op,k,i,s,nl,l,who,name,m,ps,e,h1,h2,h3,h4,h5,h6⟩=>by
  obtain ⟨z,hz⟩ : ∃ z,sizeOf x = z + 1:=⟨sizeOf x - 1,by subst e;simp only [mkE,D.agg.sizeOf_spec];omega⟩
  rw [hz]
  refine ⟨op,k,i,s,nl,l,who,name,m,ps,e,h1,h2,h3,h4,h5,fun y hy=>?_⟩
  have:=sub_size (op:=op) (k:=k) (i:=i) (s:=s) (nl:=nl) (l:=l) (who:=who) (name:=name) (m:=m) hy
  rw [<- e,hz] at this
  exact isE_le (by omega) (isE_can n y (h6 y hy))
theorem isTr.can {x : D} (h : isTr x) : isE (sizeOf x) x:=by obtain ⟨n,hn⟩:=h;exact isE_can n x hn
theorem all_congr' {f g : D -> Bool} {l : List D} (h : ∀ x ∈ l,f x = g x) : l.all f = l.all g:=by
 induction l with
 | nil=>rfl
 | cons x l ih=>simp only [List.all_cons,h x (by simp),ih fun y hy=>h y (by simp [hy])]
theorem fmR_S : ∀ (n : Nat) (e : D),isE n e -> fmR (n + 1) e = fmR n e
 | 0,_,h=>h.elim
 | n + 1,e,h=>by
  have:=all_congr' fun x hx=>fmR_S n x (isE_eps h x hx)
  show (if _ then false else if !((eps e).all (fmR (n + 1))) then false else fmTop e) = (if _ then false else if !((eps e).all (fmR n)) then false else fmTop e)
  simp only [this]
theorem fmR_fuel {n m : Nat} {e : D} (h : isE n e) (hm : n <= m) : fmR m e = fmR n e:=by
 induction hm with
 | refl=>rfl
 | step hm ih=>rw [fmR_S _ e (isE_le hm h),ih]
noncomputable def fmC (x : D) : Bool:=fmR (sizeOf x) x
theorem fmC_eq {n : Nat} {e : D} (h : isE n e) : fmR n e = fmC e:=by
 unfold fmC
 rw [<- fmR_fuel h (Nat.le_max_left n (sizeOf e)),fmR_fuel (isE_can n e h) (Nat.le_max_right n (sizeOf e))]
structure GoodE (e : D) : Prop where
 t : isTr e
 f : fmC e = true
theorem GoodE.fm {n : Nat} {e : D} (h : GoodE e) (hn : isE n e) : fmR n e = true:=by rw [fmC_eq hn];exact h.f
theorem goodE_of {n : Nat} {e : D} (hn : isE n e) (h : fmR n e = true) : GoodE e:=⟨⟨n,hn⟩,by rw [<- fmC_eq hn];exact h⟩
theorem isE_pos {n : Nat} {e : D} (h : isE n e) : ∃ m,n = m + 1:=by cases n with
 | zero=>exact h.elim
 | succ n=>exact ⟨n,rfl⟩
theorem GoodE.parts {e : D} (h : GoodE e) : 0 <= stI (eop e) /\ ((eps e).length : Int) = arN (eop e) /\ (∀ x ∈ eps e,GoodE x) /\ fmTop e = true:=by
 obtain ⟨⟨n,hn⟩,hf⟩:=h
 obtain ⟨n,rfl⟩:=isE_pos hn
 rw [<- fmC_eq hn] at hf
 obtain ⟨h1,h2,h3,h4⟩:=fmR_s hf
 exact ⟨h1,h2,fun x hx=>goodE_of (isE_eps hn x hx) (h3 x hx),h4⟩
theorem goodE_mk {e : D} (ht : isTr e) (h1 : 0 <= stI (eop e)) (h2 : ((eps e).length : Int) = arN (eop e)) (h3 : ∀ x ∈ eps e,GoodE x) (h4 : fmTop e = true) : GoodE e:=by
 obtain ⟨n,hn⟩:=ht
 obtain ⟨n,rfl⟩:=isE_pos hn
 refine goodE_of hn ?_
 have d1 : decide (stI (eop e) < 0) = false:=by simp only [decide_eq_false_iff_not];omega
 have d2 : (((eps e).length : Int) != arN (eop e)) = false:=by simp [h2]
 have d3 : (eps e).all (fmR n) = true:=List.all_eq_true.2 fun x hx=>(h3 x hx).fm (isE_eps hn x hx)
 simp only [fmR,d1,d2,d3,Bool.or_self,Bool.false_eq_true,if_false,Bool.not_true]
 exact h4
theorem sub0_mem {e : D} (h : 0 < (eps e).length) : sub0 e ∈ eps e:=by
 unfold sub0
 rw [List.getD_eq_getElem?_getD,List.getElem?_eq_getElem h]
 exact List.getElem_mem h
theorem sub1_mem {e : D} (h : 1 < (eps e).length) : sub1 e ∈ eps e:=by
 unfold sub1
 rw [List.getD_eq_getElem?_getD,List.getElem?_eq_getElem h]
 exact List.getElem_mem h
theorem ar1 {op : List UInt8} (h : (op == sSize) = true ∨ (op == sNot) = true ∨ (op == sNeg) = true) : arN op = 1:=by
 rcases h with h | h | h <;> (rw [eq_of_beq' h];decide)
theorem tokD_S : ∀ (n : Nat) (full : Bool) (e : D),isE n e -> GoodE e -> tokD (n + 1) full e = tokD n full e
 | 0,_,_,h,_=>h.elim
 | n + 1,full,e,h,hg=>by
  obtain ⟨f1,f2,f3,f4⟩:=hg.parts
  have k0 : 0 < (eps e).length -> tokD (n + 1) full (sub0 e) = tokD n full (sub0 e):=fun hl=>tokD_S n full _ (isE_eps h _ (sub0_mem hl)) (f3 _ (sub0_mem hl))
  have k1 : 1 < (eps e).length -> tokD (n + 1) full (sub1 e) = tokD n full (sub1 e):=fun hl=>tokD_S n full _ (isE_eps h _ (sub1_mem hl)) (f3 _ (sub1_mem hl))
  rcases tf (eop e == sVal) with g1 | g1
  ·rw [tokD_val g1,tokD_val g1]
  rcases tf (eop e == sNow) with g2 | g2
  ·rw [tokD_now g1 g2,tokD_now g1 g2]
  rcases tf (eop e == sAttr) with g3 | g3
  ·rw [tokD_attr g1 g2 g3,tokD_attr g1 g2 g3]
  rcases tf (eop e == sHas) with g4 | g4
  ·rw [tokD_has g1 g2 g3 g4,tokD_has g1 g2 g3 g4]
  rcases tf (eop e == sRole) with g5 | g5
  ·rw [tokD_role g1 g2 g3 g4 g5,tokD_role g1 g2 g3 g4 g5]
  rcases tf (eop e == sSize) with g6 | g6
  ·have:=ar1 (.inl g6)
   rw [tokD_size g1 g2 g3 g4 g5 g6,tokD_size g1 g2 g3 g4 g5 g6,k0 (by omega)]
  rcases tf (eop e == sNot) with g7 | g7
  ·have:=ar1 (.inr (.inl g7))
   rw [tokD_not g1 g2 g3 g4 g5 g6 g7,tokD_not g1 g2 g3 g4 g5 g6 g7,k0 (by omega)]
  rcases tf (eop e == sNeg) with g8 | g8
  ·have:=ar1 (.inr (.inr g8))
   rw [tokD_neg g1 g2 g3 g4 g5 g6 g7 g8,tokD_neg g1 g2 g3 g4 g5 g6 g7 g8,k0 (by omega)]
  ·have:=(two_op f1 g1 g2 g3 g4 g5 g6 g7 g8).2
   rw [tokD_two g1 g2 g3 g4 g5 g6 g7 g8,tokD_two g1 g2 g3 g4 g5 g6 g7 g8,k0 (by omega),k1 (by omega)]
theorem tokD_fuel {n m : Nat} {full : Bool} {e : D} (h : isE n e) (hg : GoodE e) (hm : n <= m) : tokD m full e = tokD n full e:=by
 induction hm with
 | refl=>rfl
 | step hm ih=>rw [tokD_S _ full e (isE_le hm h) hg,ih]
noncomputable def tkC (full : Bool) (x : D) : List D:=tokD (sizeOf x) full x
theorem tkC_eq {n : Nat} {full : Bool} {e : D} (h : isE n e) (hg : GoodE e) : tokD n full e = tkC full e:=by
 unfold tkC
 rw [<- tokD_fuel h hg (Nat.le_max_left n (sizeOf e)),tokD_fuel (isE_can n e h) hg (Nat.le_max_right n (sizeOf e))]
section
variable {full : Bool} {e : D}
theorem tkC_S (h : GoodE e) : ∃ n,isE (n + 1) e /\ tkC full e = tokD (n + 1) full e:=by
 obtain ⟨n,hn⟩:=isE_pos h.t.can
 refine ⟨n,hn ▸ h.t.can,?_⟩
 unfold tkC;rw [hn]
theorem tk_val (h : GoodE e) (g1 : (eop e == sVal) = true) : tkC full e = litT (eV e):=by
 obtain ⟨n,_,h2⟩:=tkC_S (full:=full) h
 rw [h2,tokD_val g1]
theorem tk_now (h : GoodE e) (g2 : (eop e == sNow) = true) : tkC full e = [mkT 1 sNow 0]:=by
 obtain ⟨n,_,h2⟩:=tkC_S (full:=full) h
 rw [h2,tokD_now (by rw [eq_of_beq' g2];decide) g2]
theorem tk_attr (h : GoodE e) (g3 : (eop e == sAttr) = true) : tkC full e = [mkT 1 (ewho e) 0,mkT 5 [46] 0,mkT 1 (ename e) 0]:=by
 obtain ⟨n,_,h2⟩:=tkC_S (full:=full) h
 rw [h2,tokD_attr (by rw [eq_of_beq' g3];decide) (by rw [eq_of_beq' g3];decide) g3]
theorem tk_has (h : GoodE e) (g4 : (eop e == sHas) = true) : tkC full e = [mkT 1 sHas 0,tP,mkT 1 (ewho e) 0,mkT 5 [46] 0,mkT 1 (ename e) 0,tQ]:=by
 obtain ⟨n,_,h2⟩:=tkC_S (full:=full) h
 rw [h2,tokD_has (by rw [eq_of_beq' g4];decide) (by rw [eq_of_beq' g4];decide) (by rw [eq_of_beq' g4];decide) g4]
theorem tk_role (h : GoodE e) (g5 : (eop e == sRole) = true) : tkC full e = [mkT 1 sRole 0,tP,mkT 3 (ename e) 0,tQ]:=by
 obtain ⟨n,_,h2⟩:=tkC_S (full:=full) h
 rw [h2,tokD_role (by rw [eq_of_beq' g5];decide) (by rw [eq_of_beq' g5];decide) (by rw [eq_of_beq' g5];decide) (by rw [eq_of_beq' g5];decide) g5]
theorem GoodE.one (h : GoodE e) (g : (eop e == sSize) = true ∨ (eop e == sNot) = true ∨ (eop e == sNeg) = true) : GoodE (sub0 e) /\ ∃ x,eps e = [x] /\ sub0 e = x:=by
 obtain ⟨f1,f2,f3,f4⟩:=h.parts
 rw [ar1 g] at f2
 refine ⟨f3 _ (sub0_mem (by omega)),?_⟩
 match hx : eps e,f2 with
 | [x],_=>exact ⟨x,rfl,by unfold sub0;rw [hx];rfl⟩
 | [],h=>simp at h
 | _ :: _ :: _,h=>simp at h;omega
theorem tk_sub {n : Nat} (h : isE (n + 1) e) {x : D} (hx : x ∈ eps e) (hg : GoodE x) : tokD n full x = tkC full x:=tkC_eq (isE_eps h x hx) hg
theorem tk_size (h : GoodE e) (g6 : (eop e == sSize) = true) : tkC full e = mkT 1 sSize 0 :: tP :: (tkC full (sub0 e) ++ [tQ]):=by
 obtain ⟨n,h1,h2⟩:=tkC_S (full:=full) h
 obtain ⟨hg,x,hx,hs⟩:=h.one (.inl g6)
 rw [h2,tokD_size (by rw [eq_of_beq' g6];decide) (by rw [eq_of_beq' g6];decide) (by rw [eq_of_beq' g6];decide) (by rw [eq_of_beq' g6];decide) (by rw [eq_of_beq' g6];decide) g6,tk_sub h1 (by rw [hx,hs];simp) hg]
theorem tk_not (h : GoodE e) (g7 : (eop e == sNot) = true) : tkC full e = mkT 1 sNot 0 :: parW full (stI (eop (sub0 e))) 2 (tkC full (sub0 e)):=by
 obtain ⟨n,h1,h2⟩:=tkC_S (full:=full) h
 obtain ⟨hg,x,hx,hs⟩:=h.one (.inr (.inl g7))
 rw [h2,tokD_not (by rw [eq_of_beq' g7];decide) (by rw [eq_of_beq' g7];decide) (by rw [eq_of_beq' g7];decide) (by rw [eq_of_beq' g7];decide) (by rw [eq_of_beq' g7];decide) (by rw [eq_of_beq' g7];decide) g7,tk_sub h1 (by rw [hx,hs];simp) hg]
theorem tk_neg (h : GoodE e) (g8 : (eop e == sNeg) = true) : tkC full e = mkT 5 [45] 0 :: parW full (stI (eop (sub0 e))) 6 (tkC full (sub0 e)):=by
 obtain ⟨n,h1,h2⟩:=tkC_S (full:=full) h
 obtain ⟨hg,x,hx,hs⟩:=h.one (.inr (.inr g8))
 rw [h2,tokD_neg (by rw [eq_of_beq' g8];decide) (by rw [eq_of_beq' g8];decide) (by rw [eq_of_beq' g8];decide) (by rw [eq_of_beq' g8];decide) (by rw [eq_of_beq' g8];decide) (by rw [eq_of_beq' g8];decide) (by rw [eq_of_beq' g8];decide) g8,tk_sub h1 (by rw [hx,hs];simp) hg]
def isOp2 (op : List UInt8) : Prop:=stI op = 0 ∨ stI op = 1 ∨ stI op = 3 ∨ stI op = 4 ∨ stI op = 5
theorem op2_not {op : List UInt8} (h : isOp2 op) : (op == sVal) = false /\ (op == sNow) = false /\ (op == sAttr) = false /\ (op == sHas) = false /\ (op == sRole) = false /\ (op == sSize) = false /\ (op == sNot) = false /\ (op == sNeg) = false:=by
 have key : ∀ w : List UInt8,(stI w = 2 ∨ stI w = 6 ∨ stI w = 7) -> (op == w) = false:=fun w hw=>by
  cases hx : op == w with
  | false=>rfl
  | true=>rw [eq_of_beq' hx] at h;unfold isOp2 at h;omega
 exact ⟨key _ (by decide),key _ (by decide),key _ (by decide),key _ (by decide),key _ (by decide),key _ (by decide),key _ (by decide),key _ (by decide)⟩
theorem op2_ar {op : List UInt8} (h : isOp2 op) : arN op = 2:=by
 have hA:=arN_of (op:=op)
 rcases h with h | h | h | h | h
 ·exact hA.1 h
 ·exact hA.2.1 h
 ·exact hA.2.2.1 h
 ·exact hA.2.2.2.1 h
 ·exact hA.2.2.2.2.1 h
theorem GoodE.two (h : GoodE e) (g : isOp2 (eop e)) : GoodE (sub0 e) /\ GoodE (sub1 e) /\ sub0 e ∈ eps e /\ sub1 e ∈ eps e /\ eps e = [sub0 e,sub1 e]:=by
 obtain ⟨f1,f2,f3,f4⟩:=h.parts
 rw [op2_ar g] at f2
 refine ⟨f3 _ (sub0_mem (by omega)),f3 _ (sub1_mem (by omega)),sub0_mem (by omega),sub1_mem (by omega),?_⟩
 unfold sub0 sub1
 match eps e,f2 with
 | [x,y],_=>rfl
 | [],h=>simp at h
 | [_],h=>simp at h
 | _ :: _ :: _ :: _,h=>simp at h;omega
theorem tk_two (h : GoodE e) (g : isOp2 (eop e)) : tkC full e = parW full (stI (eop (sub0 e))) (lstS (eop e)) (tkC full (sub0 e)) ++ (opTok (eop e) :: parW full (stI (eop (sub1 e))) (stI (eop e) + 1) (tkC full (sub1 e))):=by
 obtain ⟨n,h1,h2⟩:=tkC_S (full:=full) h
 obtain ⟨k0,k1,m0,m1,_⟩:=h.two g
 obtain ⟨g1,g2,g3,g4,g5,g6,g7,g8⟩:=op2_not g
 rw [h2,tokD_two g1 g2 g3 g4 g5 g6 g7 g8,tk_sub h1 m0 k0,tk_sub h1 m1 k1]
end
theorem GoodE.op {e : D} (h : GoodE e) : (eop e == sVal) = true ∨ (eop e == sNow) = true ∨ (eop e == sAttr) = true ∨ (eop e == sHas) = true ∨ (eop e == sRole) = true ∨ (eop e == sSize) = true ∨ (eop e == sNot) = true ∨ (eop e == sNeg) = true ∨ isOp2 (eop e):=by
 obtain ⟨f1,_⟩:=h.parts
 cases g1 : eop e == sVal with | true=>simp | false =>
 cases g2 : eop e == sNow with | true=>simp | false =>
 cases g3 : eop e == sAttr with | true=>simp | false =>
 cases g4 : eop e == sHas with | true=>simp | false =>
 cases g5 : eop e == sRole with | true=>simp | false =>
 cases g6 : eop e == sSize with | true=>simp | false =>
 cases g7 : eop e == sNot with | true=>simp | false =>
 cases g8 : eop e == sNeg with | true=>simp | false =>
 have:=(two_op f1 g1 g2 g3 g4 g5 g6 g7 g8).1
 simp only [Bool.false_eq_true,false_or]
 exact this
end GP
