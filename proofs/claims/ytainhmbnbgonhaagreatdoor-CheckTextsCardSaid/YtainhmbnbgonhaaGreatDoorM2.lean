import Derived.BigFrame
import Derived.Test.YtainhmbnbgonhaaGreatDoorM1
set_option linter.unusedSimpArgs false
set_option linter.unnecessarySimpa false
namespace GP
open Go
variable {P : Program} {c : Cx} {w : World} {H : Hp}
def lA (sz : Nat) : Nat -> List Value -> List (List Value)
 | 0,_=>[]
 | n + 1,vs=>vs.take sz :: lA sz n (vs.drop sz)
theorem jL (ag : Bool) (sz : Nat) : ∀ (n : Nat) (cs : List D),(dJ ag sz n cs).length = n
 | 0,_=>rfl
 | n + 1,cs=>by simp [dJ,jL ag sz n]
theorem uI (sz : Nat) : ∀ (n : Nat) (cs : List Value),(lA sz n cs).length = n
 | 0,_=>rfl
 | n + 1,cs=>by simp [lA,uI sz n]
theorem k9 (sz : Nat) : ∀ (n : Nat) (vs : List Value),(lA sz n vs).flatten = vs.take (n * sz)
 | 0,_=>by simp [lA]
 | n + 1,vs=>by
  simp only [lA,List.flatten_cons,k9 sz n]
  rw [Nat.add_mul,Nat.one_mul,Nat.add_comm,List.take_add]
theorem mD {ag : Bool} {sz : Nat} (hag : ag = true ∨ sz = 1) : ∀ (n : Nat) (cs : List D) (vs : List Value),Cells c cs vs -> n * sz <= cs.length -> Elems c sz (dJ ag sz n cs) (lA sz n vs)
 | 0,cs,vs,_,_=>⟨rfl,fun i h _=>absurd h (by simp [dJ]),fun x hx=>by simp [dJ] at hx⟩
 | n + 1,cs,vs,k,hl=>by
  rw [Nat.add_mul,Nat.one_mul] at hl
  have ih:=mD hag n (cs.drop sz) (vs.drop sz) (k.drop sz) (by simp;omega)
  have h0 : Cells c (D.cells (if ag then .agg (cs.take sz) else cs.headD .top)) (vs.take sz) /\ (D.cells (if ag then .agg (cs.take sz) else cs.headD .top)).length = sz:=by
   cases ag with
   | true=>exact ⟨by simpa [D.cells] using k.take sz,by simp [D.cells];omega⟩
   | false =>
    have h1 : sz = 1:=by simpa using hag
    subst h1
    cases cs with
    | nil=>simp at hl
    | cons d cs =>
     have hone:=k.one d (by simp)
     have hc : d.cells = [d]:=by cases d <;> simp_all [D.one,D.cells]
     have kt:=k.take 1
     simp only [List.take_succ_cons,List.take_zero] at kt
     simp only [Bool.false_eq_true,if_false,List.headD_cons,hc]
     exact ⟨kt,rfl⟩
  refine ⟨by simp [dJ,lA,jL,uI],fun i h h'=>?_,fun x hx=>?_⟩
  ·cases i with
   | zero=>exact h0.1
   | succ i=>exact ih.el i (by simpa [dJ] using h) (by simpa [lA] using h')
  ·simp only [dJ,List.mem_cons] at hx
   rcases hx with rfl | hx
   ·exact h0.2
   ·exact ih.sz x hx
theorem Elems.cells {sz : Nat} : ∀ {xs : List D} {vss : List (List Value)},Elems c sz xs vss -> Cells c (aT xs) vss.flatten
 | [],vss,k=>by
  have : vss = []:=by have:=k.len;simpa using this
  subst this
  exact ⟨rfl,by simp [aT],fun i h _=>absurd h (by simp [aT])⟩
 | x :: xs,[],k=>by have:=k.len;simp at this
 | x :: xs,v :: vss,k=>by
  have k' : Elems c sz xs vss:=⟨by have:=k.len;simpa using this,fun i h h'=>k.el (i + 1) (by simpa using h) (by simpa using h'),fun y hy=>k.sz y (by simp [hy])⟩
  have h0:=k.el 0 (by simp) (by simp)
  have:=h0.append k'.cells
  simpa [aT] using this
theorem rI {sz : Nat} {xs : List D} (h : ∀ x ∈ xs,x.cells.length = sz) : (aT xs).length = xs.length * sz:=by
 induction xs with
 | nil=>simp [aT]
 | cons x xs ih =>
  have:=ih (fun y hy=>h y (by simp [hy]))
  simp only [aT,List.map_cons,List.flatten_cons,List.length_append,List.length_cons] at this ⊢
  rw [h x (by simp),this,Nat.add_mul];omega
theorem Elems.take {sz : Nat} {xs : List D} {vss : List (List Value)} (k : Elems c sz xs vss) (m : Nat) : Elems c sz (xs.take m) (vss.take m) :=
 ⟨by simp [k.len],fun i h h'=>by simpa using k.el i (by simp at h;omega) (by simp at h';omega),fun x hx=>k.sz x (List.mem_of_mem_take hx)⟩
theorem AS (k : Inv c w H) {sz : Nat} {y : D} {vy : Value} (hy : Rep c y vy) {ys : List D} {st : Bool} (h : dR H st sz y = some ys) (hf : ys.all (fit sz) = true) (hbyte : ∀ l,y = .str l -> sz = 1) :
  ∃ vss,Elems c sz ys vss /\ (∀ w',(Builtin.lenOf vy).run P w' = .ok ys.length w') /\ (∀ w',w'.heap = w.heap -> (Builtin.firstCells sz ys.length vy).run P w' = .ok vss.flatten.toArray w'):=by
 cases y with
 | ms ag z o off n cap =>
  simp only [dR] at h
  split at h
  ·rename_i cs hcs
   split at h
   ·rename_i hc
    obtain ⟨rfl,rfl,h3,h4⟩:=hc
    injection h with h;subst h
    cases hy with
    | ms _ _ _ _ _ _ rc hbd h1 h2 h3' =>
     obtain ⟨vs,rest,e,fr,g1,g2,g4,g3⟩:=(k.row o _ cs hcs rfl).hold
     have hvl:=g2.len
     have he:=mD (c:=c) h4 n (cs.drop off) (vs.drop off) (g2.drop off) (by simp;omega)
     refine ⟨_,he,fun w'=>by simp [Builtin.lenOf,jL],fun w' hw'=>?_⟩
     rw [jL]
     have hfl : (lA z n (vs.drop off)).flatten.length = n * z:=by rw [k9];simp;omega
     refine run_firstCells_some w' z n ⟨c.β o,off,none⟩ n rc _ hfl (fun j v hj=>?_)
     rw [Addr.add_eq _ rfl,nW hw']
     simp only [World.cell?,g1]
     rw [k9] at hj
     have hlt : j < n * z:=by
      rcases Nat.lt_or_ge j (n * z) with h' | h'
      ·exact h'
      ·rw [List.getElem?_eq_none (by simp;omega)] at hj;cases hj
     rw [List.getElem?_take_of_lt hlt,List.getElem?_drop] at hj
     simp only [List.getElem?_toArray]
     rw [List.getElem?_append_left (by omega)]
     exact hj
   ·cases h
  ·cases h
 | _=>exact DF (st:=st) k hy h hf hbyte
theorem EA (_k : Inv c w H) {st xt e : TypeId} {sz bytes : Nat} (ht : bH P st = some e) (hxt : C9 P xt = true) (hsz : tsz P e = some sz) (hby : lC P e = some bytes) (ty : TypeId) {base : Option Addr} {sLen sCap : Nat} {vy : Value} {H1 : Hp}
  (k1 : Inv c w.drew H1) {cs : List D} {vs : List Value} (hcs : Cells c cs vs) (hcl : cs.length = sLen * sz) {ys : List D} {vss : List (List Value)} (hy : Elems c sz ys vss) (hl : ∀ w',(Builtin.lenOf vy).run P w' = .ok ys.length w') (hg : sCap < sLen + ys.length) (hneed : sLen + ys.length < 2 ^ 62)
  (hbig : (sLen + ys.length) * bytes <= 2 ^ 47) {z : List D} (hz : tz P e = some z) (hzl : z.length = sz)
  (hold : (Builtin.firstCells sz sLen (.slice base sLen sCap)).run P w.drew = .ok vs.toArray w.drew) (hnew : (Builtin.firstCells sz ys.length vy).run P w.drew = .ok vss.flatten.toArray w.drew) {T : Tk} (hT : c.T = T) (ag : Bool) :
  Yld c w (H1 ++ [.row (cs ++ aT ys)]) T (.ms ag sz H1.length 0 (sLen + ys.length) (sLen + ys.length)) ((Builtin.append_ #[st,xt] ty #[.slice base sLen sCap,vy]).run P w):=by
 obtain ⟨cap,rest,h1,h2,h3⟩:=GW (w:=w) ht hxt hsz hby ty base sLen sCap vy hl hg (by omega) hbig hz hzl hold hnew
 rw [h3]
 have hyl:=rI hy.sz
 have hk : Cells c (cs ++ aT ys) (vs ++ vss.flatten):=hcs.append hy.cells
 have hkl:=hk.len
 have:=Ef k1 rest e hk (k1.free H1.length (.inl (Nat.le_refl _))) (H':=H1 ++ [.row (cs ++ aT ys)]) (rT _ _) (fun o' h=>jR _ _ o' h) hT (ag:=ag) (sz:=sz) (n:=sLen + ys.length) (cap:=sLen + ys.length) (rc:=cap)
  (Nat.le_refl _) h1 (by
   rw [hkl,List.length_append,hcl,hyl,h2,← Nat.add_mul,← Nat.add_mul]
   exact Nat.mul_le_mul_right _ (by omega))
 have e1 : (vs ++ vss.flatten ++ rest).toArray = vs.toArray ++ vss.flatten.toArray ++ rest.toArray:=by simp
 rw [e1] at this
 exact this.drew
theorem Hq (k : Inv c w H) {st xt e : TypeId} {sz bytes : Nat} (ht : bH P st = some e) (hxt : C9 P xt = true) (hsz : tsz P e = some sz) (hby : lC P e = some bytes) {z : List D} (hz : tz P e = some z) (hzl : z.length = sz)
  (ty : TypeId) {x y : D} {vx vy : Value} (hx : Rep c x vx) (hy : Rep c y vy) {str : Bool} (hstr : ∀ l,y = .str l -> str = true -> sz = 1) {s : S} (hsH : s.H = H) (hsT : c.T = s.T) {K : D -> S -> Prop} (ag : Bool)
  (h : z9 ag sz bytes K s x (dR s.H str sz y)) :
  ∃ d s',K d s' /\ s'.t = s.t /\ Yld c w s'.H s'.T d ((Builtin.append_ #[st,xt] ty #[vx,vy]).run P w):=by
 subst hsH
 unfold z9 at h
 split at h
 ·exact h.elim
 ·rename_i ys hys
  obtain ⟨hfy,h⟩:=h
  obtain ⟨vss,ky,hl,hfirst⟩:=AS (P:=P) k hy hys hfy (fun l hl=>by
   subst hl
   cases str
   ·simp [dR,dG] at hys
   ·exact hstr l rfl rfl)
  have c0 : Cells c [] []:=⟨rfl,by simp,fun i h _=>absurd h (by simp)⟩
  have hyl:=rI ky.sz
  split at h
  ·cases hx
   split at h
   ·rename_i h0
    subst h0
    have e0 : vss = []:=by have:=ky.len;simpa using this
    subst e0
    refine ⟨.nils,s,h,rfl,?_⟩
    rw [Ci ht hxt hsz ty vy hl (by simpa using hfirst w rfl)]
    exact ⟨_,c,w,rfl,Rep.nils,k,Cx.le.refl c,hsT,Below.refl _ _⟩
   ·rename_i h0
    obtain ⟨h1,h2,h3⟩:=h
    have hpos : 0 < ys.length:=by cases ys with | nil=>exact absurd rfl h0 | cons=>simp
    refine ⟨_,_,h3,rfl,?_⟩
    have:=EA (P:=P) k ht hxt hsz hby ty (base:=none) (sLen:=0) (sCap:=0) k.drew c0 (by simp) ky hl (by simpa using hpos) (by simpa using h2) (by simpa using h1) hz hzl (by simp [Builtin.firstCells]) (hfirst _ rfl) hsT ag
    simpa using this
  ·cases hx with
   | e0 a =>
   split at h
   ·rename_i h0
    subst h0
    have e0 : vss = []:=by have:=ky.len;simpa using this
    subst e0
    refine ⟨.e0,s,h,rfl,?_⟩
    rw [wG ht hxt hsz ty a 0 0 vy hl (Nat.le_refl _) (by simpa using hfirst w rfl) (w':=w) (fun b h=>by simp [storeCells]) (fun _=>rfl)]
    exact ⟨_,c,w,rfl,Rep.e0 a,k,Cx.le.refl c,hsT,Below.refl _ _⟩
   ·rename_i h0
    obtain ⟨h1,h2,h3⟩:=h
    have hpos : 0 < ys.length:=by cases ys with | nil=>exact absurd rfl h0 | cons=>simp
    refine ⟨_,_,h3,rfl,?_⟩
    have:=EA (P:=P) k ht hxt hsz hby ty (base:=a) (sLen:=0) (sCap:=0) k.drew c0 (by simp) ky hl (by simpa using hpos) (by simpa using h2) (by simpa using h1) hz hzl (by cases a <;> simp [Builtin.firstCells,loadCells,loadCellsFrom]) (hfirst _ rfl) hsT ag
    simpa using this
  ·rename_i g z' o off n cap
   split at h
   ·rename_i cs hcs
    obtain ⟨rfl,h⟩:=h
    cases hx with
    | ms _ _ _ _ _ _ rc hbd q1 q2 q3 =>
    obtain ⟨vs,rest,e',fr,g1,g2,g4,g3⟩:=(k.row o _ cs hcs rfl).hold
    have hvl:=g2.len
    have hadd : ∀ m,Addr.add ⟨c.β o,off,none⟩ m = ⟨c.β o,off + m,none⟩:=fun m=>Addr.add_eq _ rfl _
    have inplace : n + ys.length <= rc -> off + n * z' <= cs.length →
      Yld c w (s.H.set o (.row (cs.take (off + n * z') ++ aT ys ++ cs.drop (off + n * z' + (aT ys).length)))) s.T (.ms g z' o off (n + ys.length) (max cap (n + ys.length))) ((Builtin.append_ #[st,xt] ty #[.slice (some ⟨c.β o,off,none⟩) n rc,vy]).run P w):=by
     intro hfit hoff
     have hle : (n + ys.length) * z' <= rc * z':=Nat.mul_le_mul_right _ hfit
     rw [Nat.add_mul] at hle
     obtain ⟨p1,p2,p3⟩:=vR (P:=P) k hcs rfl ky.cells (off:=off + n * z') hoff (by rw [hyl];omega)
     rw [wG ht hxt hsz ty _ n rc vy hl hfit (hfirst w rfl) (fun a ha=>by injection ha with ha;subst ha;rw [hadd];simpa using p1) (fun h=>by cases h)]
     exact ⟨_,c,_,rfl,Rep.ms g z' o off _ _ rc hbd (by omega) (by omega) q3,p2,Cx.le.refl c,hsT,p3⟩
    split at h
    ·rename_i hfit
     obtain ⟨h1,h2⟩:=h
     have hle : n * z' <= cap * z':=Nat.mul_le_mul_right _ q1
     have:=inplace (by omega) (by omega)
     rw [hyl] at this
     rw [show off + n * z' + ys.length * z' = off + (n + ys.length) * z' by rw [Nat.add_mul];omega,show max cap (n + ys.length) = cap by omega] at this
     exact ⟨_,_,h2,rfl,this⟩
    ·rename_i hfit
     obtain ⟨h1,h2,h3,h4,h5⟩:=h
     subst h1
     refine ⟨_,_,h5,rfl,?_⟩
     by_cases hrc : n + ys.length <= rc
     ·obtain ⟨v,c',w',e1,e2,e3,e4,e5,e6⟩:=inplace hrc (by omega)
      have e0' : cs.take (0 + n * z') ++ aT ys ++ cs.drop (0 + n * z' + (aT ys).length) = cs ++ aT ys:=by
       rw [List.take_of_length_le (by omega),List.drop_eq_nil_of_le (by omega),List.append_nil]
      rw [e0'] at e3
      have hlt : o < s.H.length:=by
       rcases Nat.lt_or_ge o s.H.length with h' | h'
       ·exact h'
       ·rw [List.getElem?_eq_none h'] at hcs;cases hcs
      obtain ⟨r1,r2⟩:=H8 e3 (o:=o) (x:=.row (cs ++ aT ys)) (by simp [hlt]) rfl
      rw [List.set_set,List.length_set] at r1
      rw [List.length_set] at r2
      refine ⟨v,_,w',e1,?_,r1,e4.trans r2,e5,e6⟩
      rw [show max cap (n + ys.length) = n + ys.length by omega] at e2
      cases e2 with
      | ms _ _ _ _ _ _ rc' hbd' q1' q2' q3' =>
       have hbd2 : (cM c' s.H.length (c'.β o) (c'.sz o)).bd s.H.length = true:=by show lZ _ _ _ = _;unfold lZ;rw [if_pos rfl]
       have hβ2 : (cM c' s.H.length (c'.β o) (c'.sz o)).β s.H.length = c'.β o:=by show eF _ _ _ _ = _;unfold eF;rw [if_pos rfl]
       have hz2 : (cM c' s.H.length (c'.β o) (c'.sz o)).sz s.H.length = c'.sz o:=by show eF _ _ _ _ = _;unfold eF;rw [if_pos rfl]
       have:=Rep.ms (c:=cM c' s.H.length (c'.β o) (c'.sz o)) g z' s.H.length 0 (n + ys.length) (n + ys.length) rc' hbd2 (Nat.le_refl _) q2' (by rw [hz2];exact q3')
       rwa [hβ2] at this
     ·have:=EA (P:=P) k ht hxt hsz hby ty (base:=some ⟨c.β o,0,none⟩) (sLen:=n) (sCap:=rc) (MG k.drew o) g2 h2 ky hl (by omega) h4 h3 hz hzl
       (run_firstCells_some w.drew z' n _ n rc vs (by omega) (fun j v hj=>by
        rw [Addr.add_eq _ rfl]
        have hj' : j < vs.length:=by
         rcases Nat.lt_or_ge j vs.length with h' | h'
         ·exact h'
         ·rw [List.getElem?_eq_none h'] at hj;cases hj
        have e1 : w.drew.heap[c.β o]? = some (.cells (vs ++ rest).toArray e' fr):=g1
        simp only [World.cell?,e1,Nat.zero_add,List.getElem?_toArray]
        rw [List.getElem?_append_left hj'];exact hj)) (hfirst _ rfl) hsT g
      rw [List.length_set] at this
      exact this
   ·exact h.elim
  ·exact h.elim
theorem Gz (k : Inv c w H) {dt st e : TypeId} {sz : Nat} (ht : bH P dt = some e) (hsz : tsz P e = some sz) (ty : TypeId) {x y : D} {vx vy : Value} (hx : Rep c x vx) (hy : Rep c y vy) {s : S} (hsH : s.H = H) (hsT : c.T = s.T) {K : D -> S -> Prop}
  (h : Bc sz K s x (dR s.H false sz y)) :
  ∃ d s',K d s' /\ s'.t = s.t /\ Yld c w s'.H s'.T d ((Builtin.copy_ #[dt,st] ty #[vx,vy]).run P w):=by
 subst hsH
 unfold Bc at h
 split at h
 ·exact h.elim
 ·rename_i ys hys
  obtain ⟨hfy,h⟩:=h
  obtain ⟨vss,ky,hl,hfirst⟩:=AS (P:=P) k hy hys hfy (fun l hl=>by
   subst hl
   simp [dR,dG] at hys)
  have part : ∀ m,m <= ys.length -> (Builtin.firstCells sz m vy).run P w = .ok (vss.take m).flatten.toArray w:=by
   intro m hm
   have hf:=hfirst w rfl
   have hvl:=eW vss ky.sz'
   rw [ky.len] at hvl
   have htl:=eW (vss.take m) (fun v hv=>ky.sz' v (List.mem_of_mem_take hv))
   rw [List.length_take,ky.len,Nat.min_eq_left hm] at htl
   have hpre : ∀ (j : Nat) v,(vss.take m).flatten[j]? = some v -> vss.flatten[j]? = some v:=by
    intro j v hj
    have e : vss.flatten = (vss.take m).flatten ++ (vss.drop m).flatten:=by rw [<- List.flatten_append,List.take_append_drop]
    rw [e,List.getElem?_append_left]
    ·exact hj
    ·rcases Nat.lt_or_ge j (vss.take m).flatten.length with h' | h'
     ·exact h'
     ·rw [List.getElem?_eq_none h'] at hj;cases hj
   cases hy with
   | nils =>
    have : ys = []:=by simpa [dR,dG] using hys.symm
    subst this
    have : vss = []:=by have:=ky.len;simpa using this
    subst this
    simp [Builtin.firstCells]
   | e0 a =>
    have : ys = []:=by simpa [dR,dG] using hys.symm
    subst this
    have hm0 : m = 0:=by simpa using hm
    subst hm0
    cases a <;> simp [Builtin.firstCells,loadCells,loadCellsFrom]
   | sl t xs a cap sz' vs hlen hb hszs h1 ha hs hM hr htl' ht' =>
    have e : ys = xs:=by simpa [dR,dG] using hys.symm
    subst e
    cases a with
    | none =>
     cases ys with
     | nil =>
      simp only [List.length_nil] at hm;have hm0 : m = 0:=by omega
      subst hm0;simp [Builtin.firstCells]
     | cons y ys=>obtain ⟨b,hb⟩:=ha (by simp);cases hb
    | some b =>
     obtain ⟨a',cap',uss,e1,e2,e3,e4,e5,e6,e7⟩:=vV k (Rep.sl t ys (some b) cap sz' vs hlen hb hszs h1 ha hs hM hr htl' ht') (E4 hfy)
     injection e1 with e1 _ e1'
     subst e1
     have hu : uss.flatten = vss.flatten:=by
      have:=run_firstCells_some (P:=P) w sz ys.length b ys.length cap uss.flatten e7 (fun j v hj=>(e6 b rfl j v hj).1)
      rw [hf] at this
      injection this with this
      exact (congrArg Array.toList this).symm
     exact run_firstCells_some w sz m b ys.length cap _ htl (fun j v hj=>(e6 b rfl j v (by rw [hu];exact hpre j v hj)).1)
   | ms ag z o off n cap rc hbd q1 q2 q3 =>
    simp only [dR] at hys
    split at hys
    ·rename_i cs hcs
     split at hys
     ·rename_i hc
      obtain ⟨_,rfl,h3,h4⟩:=hc
      injection hys with hys;subst hys
      obtain ⟨vs,rest,e',fr,g1,g2,g4,g3⟩:=(k.row o _ cs hcs rfl).hold
      rw [jL] at hm hf
      have hvl':=g2.len
      have hmz : m * z <= n * z:=Nat.mul_le_mul_right _ hm
      have hf2:=run_firstCells_some (P:=P) w z n ⟨c.β o,off,none⟩ n rc ((vs.drop off).take (n * z)) (by simp;omega) (fun j v hj=>by
       rw [Addr.add_eq _ rfl]
       have hlt : j < n * z:=by
        rcases Nat.lt_or_ge j (n * z) with h' | h'
        ·exact h'
        ·rw [List.getElem?_eq_none (by simp;omega)] at hj;cases hj
       rw [List.getElem?_take_of_lt hlt,List.getElem?_drop] at hj
       simp only [World.cell?,g1,List.getElem?_toArray]
       rw [List.getElem?_append_left (by omega)]
       exact hj)
      rw [hf] at hf2
      injection hf2 with hf2
      have hu : vss.flatten = (vs.drop off).take (n * z):=congrArg Array.toList hf2
      refine run_firstCells_some w z m ⟨c.β o,off,none⟩ n rc _ htl (fun j v hj=>?_)
      rw [Addr.add_eq _ rfl]
      have hj:=hpre j v hj
      rw [hu] at hj
      have hlt : j < n * z:=by
       rcases Nat.lt_or_ge j (n * z) with h' | h'
       ·exact h'
       ·rw [List.getElem?_eq_none (by simp;omega)] at hj;cases hj
      rw [List.getElem?_take_of_lt hlt,List.getElem?_drop] at hj
      simp only [World.cell?,g1,List.getElem?_toArray]
      rw [List.getElem?_append_left (by omega)]
      exact hj
     ·cases hys
    ·cases hys
   | _=>simp [dR,dG] at hys
  have zero : ∀ (a : Option Addr) (cap : Nat),vx = .slice a 0 cap -> (Builtin.copy_ #[dt,st] ty #[vx,vy]).run P w = .ok (.int .i64 0) w:=by
   intro a cap hv
   subst hv
   have h0:=part 0 (Nat.zero_le _)
   simp only [List.take_zero,List.flatten_nil] at h0
   cases a <;> simp [Builtin.copy_,run_underlying (bC ht),hl,aZ hsz,h0,storeCells,goInt]
  split at h
  ·cases hx
   exact ⟨_,s,h,rfl,by rw [zero none 0 rfl];exact ⟨_,c,w,rfl,Rep.int _ _,k,Cx.le.refl c,hsT,Below.refl _ _⟩⟩
  ·cases hx with
   | e0 a=>exact ⟨_,s,h,rfl,by rw [zero a 0 rfl];exact ⟨_,c,w,rfl,Rep.int _ _,k,Cx.le.refl c,hsT,Below.refl _ _⟩⟩
  ·cases hx with
   | sl t xs a cap sz' vs hlen hb hszs h1 ha hs hM hr htl' ht'=>exact ⟨_,s,h,rfl,by rw [zero a cap rfl];exact ⟨_,c,w,rfl,Rep.int _ _,k,Cx.le.refl c,hsT,Below.refl _ _⟩⟩
  ·rename_i g z' o off n cap
   split at h
   ·rename_i cs hcs
    obtain ⟨rfl,h2,h3⟩:=h
    cases hx with
    | ms _ _ _ _ _ _ rc hbd q1 q2 q3 =>
    refine ⟨_,_,h3,rfl,?_⟩
    have hm:=part (min ys.length n) (Nat.min_le_left _ _)
    have ke:=ky.take (min ys.length n)
    have hkl:=rI ke.sz
    rw [List.length_take,Nat.min_eq_left (Nat.min_le_left _ _)] at hkl
    have hle : min ys.length n * z' <= n * z':=Nat.mul_le_mul_right _ (Nat.min_le_right _ _)
    have hfit:=vS k hcs rfl
    obtain ⟨p1,p2,p3⟩:=vR (P:=P) k hcs rfl ke.cells (off:=off) (by omega) (by rw [hkl];omega)
    rw [hkl] at p2
    have hrun : (Builtin.copy_ #[dt,st] ty #[.slice (some ⟨c.β o,off,none⟩) n rc,vy]).run P w = .ok (.int .i64 (min ys.length n : Nat)) (aV w (c.β o) off (vss.take (min ys.length n)).flatten):=by
     have e1 : Nat.min ys.length n = min ys.length n:=rfl
     simp [Builtin.copy_,run_underlying (bC ht),hl,aZ hsz,e1,hm,p1,goInt]
    rw [hrun]
    exact ⟨_,c,_,rfl,Rep.int _ _,p2,Cx.le.refl c,hsT,p3⟩
   ·exact h.elim
  ·exact h.elim
theorem vC {z : List D} {vs : List Value} (k : Cells c z vs) : ∀ n,Cells c (List.replicate n z).flatten (List.replicate n vs).flatten
 | 0=>⟨rfl,by simp,fun i h _=>absurd h (by simp)⟩
 | n + 1=>by
  simp only [List.replicate_succ,List.flatten_cons]
  exact k.append (vC k n)
theorem oP (z : Array Value) (n : Nat) : (Builtin.zeroCells z n).toList = (List.replicate n z.toList).flatten:=by
 unfold Builtin.zeroCells
 apply List.ext_getElem?
 intro i
 rcases Nat.lt_or_ge i (n * z.size) with hi | hi
 ·have hpos : 0 < z.size:=by
   rcases Nat.eq_zero_or_pos z.size with h | h
   ·rw [h] at hi;simp at hi
   ·exact h
  have h1 : i / z.size < n:=Nat.div_lt_of_lt_mul (by rw [Nat.mul_comm];exact hi)
  have h2 : i % z.size < z.size:=Nat.mod_lt _ hpos
  have h3 : (List.replicate n z.toList).flatten[i / z.size * z.size + i % z.size]? = z.toList[i % z.size]?:=by
   have:=wX (sz:=z.size) (List.replicate n z.toList) (i / z.size) (by simpa using h1) (i % z.size) (fun x hx=>by rw [List.eq_of_mem_replicate hx];simp) h2
   rw [this];simp
  have h4 : i / z.size * z.size + i % z.size = i:=by rw [Nat.mul_comm];exact Nat.div_add_mod i z.size
  rw [h4] at h3
  rw [h3]
  simp [hi,h2]
 ·have hl : (List.replicate n z.toList).flatten.length = n * z.size:=by simp
  rw [List.getElem?_eq_none (by simpa using hi),List.getElem?_eq_none (by rw [hl];exact hi)]
theorem Js (k : Inv c w H) {t e : TypeId} {z : List D} (ht : bH P t = some e) (hz : tz P e = some z) (ty : TypeId) {x : D} {vx : Value} (hx : Rep c x vx) {s : S} (hsH : s.H = H) (hsT : c.T = s.T) {K : D -> S -> Prop} (h : CG z K s x) :
  ∃ d s',K d s' /\ s'.t = s.t /\ Yld c w s'.H s'.T d ((Builtin.clear_ #[t] ty #[vx]).run P w):=by
 subst hsH
 obtain ⟨zv,z1,z2⟩:=kG (P:=P) hz c
 have ru:=run_underlying (P:=P) (w:=w) (bC ht)
 have sR : Rep c (.tup []) (.tuple #[]):=Rep.tup [] [] rfl (fun i h _=>absurd h (by simp))
 have zero : ∀ (a : Option Addr) (cap : Nat),vx = .slice a 0 cap -> (Builtin.clear_ #[t] ty #[vx]).run P w = .ok (.tuple #[]) w:=by
  intro a cap hv
  subst hv
  cases a <;> simp [Builtin.clear_,ru]
 unfold CG at h
 split at h
 ·cases hx
  exact ⟨_,s,h,rfl,by rw [zero none 0 rfl];exact ⟨_,c,w,rfl,sR,k,Cx.le.refl c,hsT,Below.refl _ _⟩⟩
 ·cases hx with
  | e0 a=>exact ⟨_,s,h,rfl,by rw [zero a 0 rfl];exact ⟨_,c,w,rfl,sR,k,Cx.le.refl c,hsT,Below.refl _ _⟩⟩
 ·cases hx with
  | sl t xs a cap sz' vs hlen hb hszs h1 ha hs hM hr htl' ht'=>exact ⟨_,s,h,rfl,by rw [zero a cap rfl];exact ⟨_,c,w,rfl,sR,k,Cx.le.refl c,hsT,Below.refl _ _⟩⟩
 ·rename_i g sz o off n cap
  split at h
  ·rename_i cs hcs
   obtain ⟨rfl,h2,h3⟩:=h
   cases hx with
   | ms _ _ _ _ _ _ rc hbd q1 q2 q3 =>
   refine ⟨_,_,h3,rfl,?_⟩
   have hfl : (List.replicate n z).flatten.length = n * z.length:=by simp
   have hfit:=vS k hcs rfl
   obtain ⟨p1,p2,p3⟩:=vR (P:=P) k hcs rfl (vC z2 n) (off:=off) (by omega) (by rw [hfl];omega)
   rw [hfl] at p2
   have hrun : ∃ w',(Builtin.clear_ #[t] ty #[.slice (some ⟨c.β o,off,none⟩) n rc]).run P w = .ok (.tuple #[]) w' /\ w' = aV w (c.β o) off (List.replicate n zv.cells.toList).flatten:=by
    cases n with
    | zero=>exact ⟨w,by simp [Builtin.clear_,ru],by simp [aV]⟩
    | succ n =>
     refine ⟨_,?_,rfl⟩
     simp [Builtin.clear_,ru,z1,oP,p1]
   obtain ⟨w',e1,e2⟩:=hrun
   subst e2
   rw [e1]
   exact ⟨_,c,_,rfl,sR,p2,Cx.le.refl c,hsT,p3⟩
  ·exact h.elim
 ·exact h.elim
theorem Hh (k : Inv c w H) {st xt e : TypeId} {z : List D} {sz bytes : Nat} {ki : IntKind} (ht : bH P st = some e) (hxt : P.underlying xt = some (.int ki)) (hsz : tsz P e = some sz) (hby : lC P e = some bytes) (hz : tz P e = some z) (ty : TypeId) {x y : D} {vx vy : Value} (hx : Rep c x vx) (hy : Rep c y vy) {s : S} (hsH : s.H = H) (hsT : c.T = s.T) {K : D -> S -> Prop} {ag : Bool}
  (h : yK ag sz bytes z K s x y) :
  ∃ d s',K d s' /\ s'.t = s.t /\ Yld c w s'.H s'.T d ((Builtin.append_ #[st,xt] ty #[vx,vy]).run P w):=by
 subst hsH
 obtain ⟨zv,z1,z2⟩:=kG (P:=P) hz c
 obtain ⟨i,hi,hib⟩:=xF hby
 unfold yK at h
 obtain ⟨h0,h⟩:=h
 split at h
 ·rename_i ka n
  obtain ⟨h1,h2,h3,h4,h5⟩:=h
  cases hy
  have hvx : ∃ base,vx = .slice base 0 0:=by
   rcases h0 with rfl | rfl
   ·cases hx;exact ⟨none,rfl⟩
   ·cases hx with
    | e0 a=>exact ⟨a,rfl⟩
  obtain ⟨base,rfl⟩:=hvx
  refine ⟨_,_,h5,rfl,?_⟩
  obtain ⟨m,rfl⟩ : ∃ m : Nat,n = (m : Int):=⟨n.toNat,by omega⟩
  rw [Int.toNat_natCast]
  have wa : IntKind.i64.wrap (m : Int) = (m : Int):=by simp [IntKind.wrap,IntKind.bits,IntKind.signed];omega
  have hzs : zv.cells.size = sz:=by have:=z2.len;simp at this;omega
  have hm2 : m * bytes <= 2 ^ 47:=by
   have : ((m * bytes : Nat) : Int) <= 2 ^ 47:=by rw [Int.natCast_mul];exact h2
   omega
  have hold : ∀ w',(Builtin.firstCells sz 0 (.slice base 0 0)).run P w' = .ok #[] w':=fun w'=>by
   cases base <;> simp [Builtin.firstCells,loadCells,loadCellsFrom]
  have hze : (Builtin.zeroCells zv.cells m).toList = (List.replicate m zv.cells.toList).flatten:=oP zv.cells m
  have hrun : ∃ (cap : Nat) (rest : List Value),m <= cap /\ rest.length = (cap - m) * sz ∧
    (Builtin.append_ #[st,xt] ty #[.slice base 0 0,.int ka (m : Int)]).run P w = .ok (.slice (some ⟨w.heap.size,0,none⟩) m cap) (w.drew.alloc (.cells ((List.replicate m zv.cells.toList).flatten ++ rest).toArray e)):=by
   refine ⟨grownCap w m 0 e,(Builtin.zeroCells zv.cells (grownCap w m 0 e - m)).toList,?_,?_,?_⟩
   ·simp [grownCap,Question.cut]
   ·simp [Builtin.zeroCells,hzs]
   ·have hn : ¬ (m <= 0):=by omega
    have ha : ¬ ((m : Int) < 0):=by omega
    have h63 : ¬ (9223372036854775807 < (m : Int)):=by omega
    have hbig : ¬ (281474976710656 : Int) < (m : Int) * i.bytes:=by rw [hib];omega
    have h48 : ¬ (281474976710656 < Builtin.nextslicecap m 0 * i.bytes):=by
     have:=growslice_fits (need:=m) (old:=0) (bytes:=bytes) (by omega) (by omega)
     rw [hib];omega
    have hcells : ((List.replicate m zv.cells.toList).flatten ++ (Builtin.zeroCells zv.cells (grownCap w m 0 e - m)).toList).toArray = Builtin.zeroCells zv.cells m ++ Builtin.zeroCells zv.cells (grownCap w m 0 e - m):=by
     rw [<- hze];simp
    rw [hcells]
    by_cases hs0 : m * sz = 0
    ·have hz0 : Builtin.zeroCells zv.cells m = #[]:=by
      apply Array.toList_inj.1
      apply List.eq_nil_of_length_eq_zero
      simp only [Array.length_toList,Builtin.zeroCells,Array.size_map,Array.size_range,hzs];exact hs0
     rw [hz0]
     simp [Builtin.append_,run_underlying (bC ht),aZ hsz,run_underlying hxt,asInt,asIntOf,wa,hn,ha,h63,hbig,h48,hi,Question.forced,hold,z1,newRow,grownCap,hs0]
     intro hm0;omega
    ·simp [Builtin.append_,run_underlying (bC ht),aZ hsz,run_underlying hxt,asInt,asIntOf,wa,hn,ha,h63,hbig,h48,hi,Question.forced,hold,z1,newRow,grownCap,hs0]
     intro hm0;omega
  obtain ⟨cap,rest,g1,g2,g3⟩:=hrun
  rw [g3]
  have hr:=vC z2 m
  have k1:=k.drew
  have:=Ef k1 rest e hr (k1.free s.H.length (.inl (Nat.le_refl _))) (H':=s.H ++ [.row (List.replicate m z).flatten]) (rT _ _) (fun o' h=>jR _ _ o' h) hsT (ag:=ag) (sz:=sz) (n:=m) (cap:=m) (rc:=cap)
   (Nat.le_refl _) g1 (by
    have hl:=hr.len
    simp only [List.length_flatten,List.map_replicate,List.sum_replicate_nat,Array.length_toList] at hl ⊢
    rw [hzs,g2,← Nat.add_mul]
    exact Nat.mul_le_mul_right _ (by omega))
  exact this.drew
 ·exact h.elim
theorem Km (k : Inv c w H) {t e : TypeId} {z : List D} {sz bytes : Nat} (ht : bH P t = some e) (hsz : tsz P e = some sz) (hby : lC P e = some bytes) (hz : tz P e = some z) {x y : D} {vx vy : Value} (hx : Rep c x vx) (hy : Rep c y vy) {s : S} (hsH : s.H = H) (hsT : c.T = s.T) {K : D -> S -> Prop} {ag : Bool}
  (h : FQ ag sz bytes z K s x y) :
  ∃ d s',K d s' /\ s'.t = s.t /\ Yld c w s'.H s'.T d ((Instr.makeSlice t vx vy).run P w):=by
 subst hsH
 obtain ⟨zv,z1,z2⟩:=kG (P:=P) hz c
 obtain ⟨i,hi,hib⟩:=xF hby
 unfold FQ at h
 split at h
 ·rename_i ka a kb b
  obtain ⟨h1,h2,h3,h4,h5,h6⟩:=h
  cases hx;cases hy
  refine ⟨_,_,h6,rfl,?_⟩
  have wa : IntKind.i64.wrap a = a:=by simp [IntKind.wrap,IntKind.bits,IntKind.signed];omega
  have wb : IntKind.i64.wrap b = b:=by simp [IntKind.wrap,IntKind.bits,IntKind.signed];omega
  have hzs : zv.cells.size = sz:=by have:=z2.len;simp at this;omega
  have hrun : (Instr.makeSlice t (.int ka a) (.int kb b)).run P w = .ok (.slice (some ⟨w.heap.size,0,none⟩) a.toNat b.toNat) (w.alloc (.cells (List.replicate b.toNat zv.cells.toList).flatten.toArray e)):=by
   have hb0 : ¬ b < 0:=by omega
   have ha0 : ¬ a < 0:=by omega
   have hab : ¬ b < a:=by omega
   have hbig : ¬ (281474976710656 : Int) < i.bytes * b:=by rw [hib,Int.mul_comm];omega
   have hze : ((Array.range (b.toNat * sz)).map (fun j=>(if b.toNat * sz = 0 then #[] else zv.cells)[j % (if b.toNat * sz = 0 then #[] else zv.cells).size]!)) = (List.replicate b.toNat zv.cells.toList).flatten.toArray:=by
    apply Array.toList_inj.1
    by_cases h0 : b.toNat * sz = 0
    ·have : (List.replicate b.toNat zv.cells.toList).flatten.length = 0:=by simp [hzs,h0]
     have : (List.replicate b.toNat zv.cells.toList).flatten = []:=List.length_eq_zero_iff.1 this
     rw [this,h0];simp
    ·simp only [h0,if_false]
     have:=oP zv.cells b.toNat
     unfold Builtin.zeroCells at this
     rw [hzs] at this
     simp only [hzs]
     exact this
   have has : ∀ (n : Nat) (w : World),(askRoom n).run P w = .ok () w:=fun n w=>by unfold askRoom;split <;> rfl
   by_cases h0 : b.toNat * sz = 0
   ·simp only [h0,if_true] at hze
    simp [Instr.makeSlice,run_underlying (bC ht),hi,asInt,asIntOf,wa,wb,hb0,ha0,hab,hbig,has,aZ hsz,h0,newRow]
    rw [<- hze];simp
   ·simp only [h0,if_false] at hze
    simp [Instr.makeSlice,run_underlying (bC ht),hi,asInt,asIntOf,wa,wb,hb0,ha0,hab,hbig,has,aZ hsz,h0,z1,newRow]
    rw [<- hze]
  rw [hrun]
  have hr:=vC z2 b.toNat
  have:=Ef k [] e hr (k.free s.H.length (.inl (Nat.le_refl _))) (H':=s.H ++ [.row (List.replicate b.toNat z).flatten]) (rT _ _) (fun o' h=>jR _ _ o' h) hsT (ag:=ag) (sz:=sz) (n:=a.toNat) (cap:=b.toNat) (rc:=b.toNat)
   (by omega) (Nat.le_refl _) (by rw [hr.len];simp [h5])
  rw [List.append_nil] at this
  exact this
 ·exact h.elim
end GP
namespace GP
open Go
variable {P : Program} {c : Cx} {w : World} {H : Hp}
def fzM (c : Cx) (o : Nat) (vs : List Value) : Addr -> Option Value:=fun a=>if a.block = c.β o /\ a.spot = none then vs[a.off]? else c.M a
def Cx.fz (c : Cx) (o : Nat) (vs : List Value) : Cx:={ c with M:=fzM c o vs }
theorem D7 {c : Cx} {o : Nat} {vs : List Value} {a : Addr} (h : a.block ≠ c.β o) : fzM c o vs a = c.M a:=by
 unfold fzM;rw [if_neg (fun k=>h k.1)]
theorem S7 (c : Cx) (o : Nat) (vs : List Value) (i : Nat) : fzM c o vs ⟨c.β o,i,none⟩ = vs[i]?:=by
 unfold fzM;rw [if_pos ⟨rfl,rfl⟩]
theorem Ik {o : Nat} {vs : List Value} (h : ∀ i,c.M ⟨c.β o,i,none⟩ = none) : c.le (c.fz o vs):=by
 refine ⟨fun a v ha=>?_,fun _ h=>h,fun _ _=>rfl,Nat.le_refl _,fun _ h=>h,fun _ n _ h=>.inr ⟨n,h,Nat.le_refl _,fun _=>rfl⟩,rfl,fun _ _=>rfl⟩
 show fzM c o vs a = some v
 unfold fzM
 split
 ·rename_i hc
  obtain ⟨b,i,s⟩:=a
  obtain ⟨h1,h2⟩:=hc
  simp only at h1 h2;subst h1;subst h2
  rw [h i] at ha;cases ha
 ·exact ha
theorem nV {H : Hp} {o o' : Nat} {x y : Ob} (h : (H.set o x)[o']? = some y) (hx : y ≠ x) : o' ≠ o /\ H[o']? = some y:=by
 by_cases e : o = o'
 ·subst e
  rw [List.getElem?_set] at h
  split at h
  ·split at h
   ·injection h with h;exact absurd h.symm hx
   ·cases h
  ·rename_i hne;exact absurd rfl hne
 ·rw [List.getElem?_set_ne e] at h
  exact ⟨fun k=>e k.symm,h⟩
theorem Inv.row_at (k : Inv c w H) {o : Nat} {cs : List D} (h : H[o]? = some (.row cs)) : ∃ vs,Cells c cs vs /\ ∀ (i : Nat) u,vs[i]? = some u -> w.cell? ⟨c.β o,i,none⟩ = some u:=by
 obtain ⟨a,vs,h1,h2,h3,h4⟩:=ED k (Rep.ptr o 0 (k.own o _ h rfl).1) (cs:=cs) (by simp [eO,h])
 injection h1 with h1;injection h1 with h1;subst h1
 refine ⟨vs,h3,fun i u hu=>?_⟩
 have:=h4 i u hu
 rw [Addr.add_eq _ rfl] at this
 simpa using this
theorem Inv.fz (k : Inv c w H) {o : Nat} {cs : List D} (h : H[o]? = some (.row cs)) {vs : List Value} (hv : ∀ (i : Nat) u,vs[i]? = some u -> w.cell? ⟨c.β o,i,none⟩ = some u) : Inv (c.fz o vs) w (H.set o .dead):=by
 obtain ⟨hb,hB,hw,hM⟩:=k.own o _ h rfl
 have hle:=Ik (vs:=vs) hM
 have get : ∀ {o' : Nat} {x : Ob},(H.set o .dead)[o']? = some x -> x.live = true -> o' ≠ o /\ H[o']? = some x:=fun hg hx=>nV hg (fun e=>by subst e;simp [Ob.live] at hx)
 have hne : ∀ {o' : Nat} {x : Ob},H[o']? = some x -> x.live = true -> o' ≠ o -> c.β o' ≠ c.β o:=fun hg hx hn e=>hn (k.apart _ _ _ _ hg h hx rfl e)
 refine ⟨fun a v ha=>?_,k.low,fun o' x cs' hg hx=>?_,fun o' hf=>?_,fun o' x hg hx=>?_,fun o' o'' x x' hg hg' hx hx'=>?_,fun o' es clk hg=>?_,fun o' m l hg=>?_,fun τ n z ht=>?_,fun τ n z o' x ht hg hx=>?_,k.toks⟩
 ·change fzM c o vs a = some v at ha
  unfold fzM at ha
  split at ha
  ·rename_i hc
   obtain ⟨b,i,s⟩:=a
   obtain ⟨h1,h2⟩:=hc
   simp only at h1 h2 ha;subst h1;subst h2
   exact hv i v ha
  ·exact k.keep a v ha
 ·have hlv : x.live = true:=by cases x <;> simp [Ob.cells?] at hx <;> rfl
  obtain ⟨h1,h2⟩:=get hg hlv
  obtain ⟨us,rest,e,fr,g1,g2,g3,g4⟩:=(k.row o' x cs' h2 hx).hold
  exact ⟨us,rest,e,fr,g1,g2.mono hle,g3,g4⟩
 ·rcases hf with hf | hf
  ·exact k.free o' (.inl (by simpa using hf))
  ·obtain ⟨_,h2⟩:=nV hf (by simp)
   exact k.free o' (.inr h2)
 ·obtain ⟨h1,h2⟩:=get hg hx
  obtain ⟨g1,g2,g3,g4⟩:=k.own o' x h2 hx
  refine ⟨g1,g2,g3,fun i=>?_⟩
  show fzM c o vs _ = none
  rw [D7 (hne h2 hx h1)];exact g4 i
 ·obtain ⟨_,h2⟩:=get hg hx
  obtain ⟨_,h3⟩:=get hg' hx'
  exact k.apart _ _ _ _ h2 h3 hx hx'
 ·exact k.map o' es clk (nV hg (by simp)).2
 ·exact k.iter o' m l (nV hg (by simp)).2
 ·obtain ⟨g1,g2,g3,g4,g5⟩:=k.tok τ n z ht
  refine ⟨g1,g2,g3,g4,fun j h1 h2=>?_⟩
  obtain ⟨q1,q2,q3⟩:=g5 j h1 h2
  refine ⟨q1,q2,?_⟩
  show fzM c o vs ⟨(c.κ τ).1.block,(c.κ τ).1.off + j,none⟩ = none
  rw [D7 (a:=⟨(c.κ τ).1.block,(c.κ τ).1.off + j,none⟩) (fun e=>k.tokrow τ n z o _ ht h rfl e.symm)];exact q3
 ·obtain ⟨_,h2⟩:=get hg hx
  exact k.tokrow τ n z o' x ht h2 hx
theorem Li {ag : Bool} {z o off n cap : Nat} {v : Value} (hr : Rep c (.ms ag z o off n cap) v) {cs : List D} {vs : List Value} (hc : Cells c cs vs) (hM : ∀ i,c.M ⟨c.β o,i,none⟩ = none) (h1 : off + n * z <= cs.length) (h2 : ag = true ∨ z = 1) (h3 : n < 2 ^ 62) :
  Rep (c.fz o vs) (.sl none (dJ ag z n (cs.drop off))) v:=by
 cases hr with
 | ms _ _ _ _ _ _ rc hb g1 g2 g3 =>
  have hle:=Ik (vs:=vs) hM
  have hcd : Cells (c.fz o vs) (cs.drop off) (vs.drop off):=by
   have:=hc.mono hle
   exact ⟨by simp [this.len],fun d hd=>this.one d (List.mem_of_mem_drop hd),fun i h h'=>by simpa using this.rep (off + i) (by simp at h;omega) (by simp at h';omega)⟩
  have ke:=mD h2 n _ _ hcd (by simp;omega)
  have hl:=jL ag z n (cs.drop off)
  have hvl : vs.length = cs.length:=hc.len
  have:=nH ke (a:=⟨c.β o,off,none⟩) (cap:=rc) rfl (by omega) (by omega) (fun j hj=>?_) none (fun τ h=>by cases h) (fun τ h=>by cases h)
  ·rw [hl] at this;exact this
  ·rw [hl] at hj
   show fzM c o vs ⟨c.β o,off + j,none⟩ = _
   rw [S7,k9,List.getElem?_take_of_lt (by omega),List.getElem?_drop]
mutual
def D.fz (o : Nat) (cs : List D) : D -> D
 | .ms ag z o' off n cap=>if o' = o /\ off + n * z <= cs.length /\ (ag = true ∨ z = 1) /\ n < 2 ^ 62 then .sl none (dJ ag z n (cs.drop off)) else .ms ag z o' off n cap
 | .sl t xs=>.sl t (D.fzL o cs xs)
 | .el ds=>.el (D.fzL o cs ds)
 | .agg ds=>.agg (D.fzL o cs ds)
 | .tup ds=>.tup (D.fzL o cs ds)
 | .fn f a b=>.fn f (D.fzL o cs a) (D.fzL o cs b)
 | .ifc t d=>.ifc t (D.fz o cs d)
 | d=>d
def D.fzL (o : Nat) (cs : List D) : List D -> List D
 | []=>[]
 | d :: ds=>D.fz o cs d :: D.fzL o cs ds
end
section
variable {o : Nat} {cs : List D}
theorem fJ : ∀ (l : List D),(D.fzL o cs l).length = l.length
 | []=>by simp [D.fzL]
 | d :: l=>by simp [D.fzL,fJ l]
theorem mH : ∀ (l : List D) (i : Nat) (h : i < l.length) (h' : i < (D.fzL o cs l).length),(D.fzL o cs l)[i] = (l[i]).fz o cs
 | d :: l,0,h,h'=>by simp [D.fzL]
 | d :: l,i + 1,h,h'=>by
  simp only [D.fzL,List.getElem_cons_succ]
  exact mH l i _ _
theorem vG (l : List D) : D.fzL o cs l = l.map (D.fz o cs):=by
 induction l with
 | nil=>simp [D.fzL]
 | cons d l ih=>simp [D.fzL,ih]
theorem Gp (d : D) : (d.fz o cs).one = d.one:=by
 cases d with
 | ms ag z o' off n cap =>
  simp only [D.fz]
  by_cases h : o' = o /\ off + n * z <= cs.length /\ (ag = true ∨ z = 1) /\ n < 2 ^ 62
  ·rw [if_pos h];rfl
  ·rw [if_neg h]
 | _=>simp only [D.fz,D.one]
theorem BP (d : D) : (d.fz o cs).cells = D.fzL o cs d.cells:=by
 cases d with
 | ms ag z o' off n cap =>
  simp only [D.fz]
  by_cases h : o' = o /\ off + n * z <= cs.length /\ (ag = true ∨ z = 1) /\ n < 2 ^ 62
  ·rw [if_pos h];simp only [D.cells,D.fzL,D.fz];rw [if_pos h]
  ·rw [if_neg h];simp only [D.cells,D.fzL,D.fz];rw [if_neg h]
 | _=>simp only [D.fz,D.cells,D.fzL]
theorem Rep.fz {vs : List Value} (hc : Cells c cs vs) (hM : ∀ i,c.M ⟨c.β o,i,none⟩ = none) {d : D} {v : Value} (h : Rep c d v) : Rep (c.fz o vs) (d.fz o cs) v:=by
 have hle:=Ik (vs:=vs) hM
 induction h with
 | bool b=>simpa [D.fz] using Rep.bool b
 | int k n=>simpa [D.fz] using Rep.int k n
 | str l h=>simpa [D.fz] using Rep.str l h
 | nilp=>simpa [D.fz] using Rep.nilp
 | ptr o off h=>simpa [D.fz] using (Rep.ptr o off h).mono hle
 | el ds a us ha h1 hM' _ ih =>
  simp only [D.fz]
  refine Rep.el _ a us ha ?_ (fun i hi=>hle.M _ _ (hM' i (by simpa [fJ] using hi))) (fun i hi=>?_)
  ·intro d hd
   rw [vG] at hd
   obtain ⟨x,hx,rfl⟩:=List.mem_map.1 hd
   rw [Gp];exact h1 x hx
  ·have hi' : i < ds.length:=by simpa [fJ] using hi
   rw [mH ds i hi']
   exact ih i hi'
 | nils=>simpa [D.fz] using Rep.nils
 | ms ag z o' off len cap rc h h1 h2 h3 =>
  have hm:=Rep.ms (c:=c) ag z o' off len cap rc h h1 h2 h3
  simp only [D.fz]
  split
  ·rename_i hq
   obtain ⟨rfl,q1,q2,q3⟩:=hq
   exact Li hm hc hM q1 q2 q3
  ·exact hm.mono hle
 | e0 a=>simpa [D.fz] using Rep.e0 a
 | sl t xs a cap sz us hlen hb hsz h1 ha hs hM' _ htl ht ih =>
  simp only [D.fz]
  have hl:=fJ (o:=o) (cs:=cs) xs
  rw [<- hl]
  refine Rep.sl t (D.fzL o cs xs) a cap sz us (by omega) (by omega) ?_ ?_ ?_ ?_ ?_ ?_ htl (fun τ h n z h'=>by rw [hl];exact ht τ h n z h')
  ·intro x hx
   rw [vG] at hx
   obtain ⟨y,hy,rfl⟩:=List.mem_map.1 hx
   rw [BP,fJ];exact hsz y hy
  ·intro x hx y hy
   rw [vG] at hx
   obtain ⟨z,hz,rfl⟩:=List.mem_map.1 hx
   rw [BP,vG] at hy
   obtain ⟨u,hu,rfl⟩:=List.mem_map.1 hy
   rw [Gp];exact h1 z hz u hu
  ·intro hne
   exact ha (by intro e;subst e;exact hne (by simp [D.fzL]))
  ·intro hne
   exact hs (by intro e;subst e;exact hne (by simp [D.fzL]))
  ·intro i hi j hj b hb
   exact hle.M _ _ (hM' i (by omega) j hj b hb)
  ·intro i hi j hj
   have hi' : i < xs.length:=by omega
   have e1 : (D.fzL o cs xs)[i].cells = D.fzL o cs (xs[i].cells):=by rw [mH xs i hi',BP]
   have hj' : j < (xs[i].cells).length:=by rw [e1,fJ] at hj;exact hj
   have e2 : ((D.fzL o cs xs)[i].cells)[j] = ((xs[i].cells)[j]).fz o cs:=by
    have:=mH (o:=o) (cs:=cs) (xs[i].cells) j hj' (by rw [fJ];exact hj')
    rw [<- this];congr 1
   rw [e2]
   exact ih i hi' j hj'
 | fn f p q vp vq hp hq _ _ ih1 ih2 =>
  simp only [D.fz]
  refine Rep.fn f _ _ vp vq (by rw [fJ];exact hp) (by rw [fJ];exact hq) (fun i h h'=>?_) (fun i h h'=>?_)
  ·have hi : i < p.length:=by rw [fJ] at h;exact h
   rw [mH p i hi];exact ih1 i hi h'
  ·have hi : i < q.length:=by rw [fJ] at h;exact h
   rw [mH q i hi];exact ih2 i hi h'
 | nilf=>simpa [D.fz] using Rep.nilf
 | mp o h=>simpa [D.fz] using (Rep.mp o h).mono hle
 | nilm=>simpa [D.fz] using Rep.nilm
 | nili=>simpa [D.fz] using Rep.nili
 | ifc t d v _ ih=>simp only [D.fz];exact Rep.ifc t _ v ih
 | agg ds us hl h1 _ ih =>
  simp only [D.fz]
  refine Rep.agg _ us (by rw [fJ];exact hl) ?_ (fun i h h'=>?_)
  ·intro d hd
   rw [vG] at hd
   obtain ⟨x,hx,rfl⟩:=List.mem_map.1 hd
   rw [Gp];exact h1 x hx
  ·have hi : i < ds.length:=by rw [fJ] at h;exact h
   rw [mH ds i hi];exact ih i hi h'
 | tup ds us hl _ ih =>
  simp only [D.fz]
  refine Rep.tup _ us (by rw [fJ];exact hl) (fun i h h'=>?_)
  have hi : i < ds.length:=by rw [fJ] at h;exact h
  rw [mH ds i hi];exact ih i hi h'
 | top v=>simpa [D.fz] using Rep.top v
end
theorem KQ {src dst e : TypeId} (hs : P.underlying src = some (.slice e)) (he : P.underlying e = some (.int .u8)) (hd : P.underlying dst = some .string) (hi : Inv c w H) {x r : D} {v : Value} (hx : Rep c x v)
  (h : MD H x = some r) : ∃ u,(Go.convert src dst v).run P w = .ok u w /\ Rep c r u:=by
 unfold MD at h
 split at h
 ·rename_i ag z o off n cap
  split at h
  ·rename_i cs ho
   split at h
   ·rename_i hc
    obtain ⟨h1,h2,h3,h4⟩:=hc
    injection h with h;subst h
    obtain ⟨vs,hv,hcell⟩:=hi.row_at ho
    have hM:=(hi.own o _ ho rfl).2.2.2
    obtain ⟨u,e1,e2⟩:=xT (P:=P) hs he hd (hi.fz ho hcell) (Li hx hv hM (by rw [h1];omega) (.inr h1) h4) (r:=.str ((dJ ag z n (cs.drop off)).map o7)) (by simp only [xX];rw [if_pos h3])
    refine ⟨u,e1,?_⟩
    cases e2 with
    | str _ hl=>exact Rep.str _ hl
   ·cases h
  ·cases h
 ·exact xT hs he hd hi hx h
end GP
namespace GP
open Go
variable {P : Program} {c : Cx} {w : World} {H : Hp}
theorem K0 (k : Inv c w H) {sz : Nat} {xs : List D} {vss : List (List Value)} (hk : Elems c sz xs vss) (e : TypeId) (fr : Nat × Nat) (hb : xs.length < 2 ^ 62) (rest : List Value) {cap : Nat} (hcap : xs.length <= cap) {T : Tk} (hT : c.T = T) :
  Yld c w H T (.sl none xs) (.ok (.slice (some ⟨w.heap.size,0,none⟩) xs.length cap) (w.alloc (.cells (vss.flatten ++ rest).toArray e fr))):=by
 have hle:=wT k (vss.flatten ++ rest) vss.flatten.length
 refine ⟨_,{ c with M:=fY c.M w.heap.size (vss.flatten ++ rest) vss.flatten.length },_,rfl,?_,k.fresh _ e fr _,hle,hT,Below.of_alloc w _ k.low⟩
 refine nH (hk.mono hle) rfl hcap hb (fun j hj=>?_) none (fun τ h=>by cases h) (fun τ h=>by cases h)
 have : j < vss.flatten.length:=by rw [eW vss hk.sz',hk.len];exact hj
 show fY _ _ _ _ _ = _
 simp only [Nat.zero_add]
 rw [xL this,List.getElem?_append_left this]
theorem HB (w : World) (arr : Array Value) (e : TypeId) : (w.alloc (.cells arr e)).freeze ⟨w.heap.size,arr.size,none⟩ 1 = w.alloc (.cells arr e (arr.size,arr.size + 1)):=by
 unfold World.freeze
 rw [if_neg (by decide)]
 show ({ w.alloc (.cells arr e) with heap:=_ } : World) = { w with heap:=_ }
 have : ∀ f : Obj -> Obj,(w.heap.push (.cells arr e)).modify w.heap.size f = w.heap.push (f (.cells arr e)):=by
  intro f
  apply Array.ext_getElem?
  intro i
  rw [Array.getElem?_modify]
  by_cases h : w.heap.size = i
  ·subst h;simp
  ·rw [if_neg h]
   simp only [Array.getElem?_push]
   rw [if_neg (Ne.symm h),if_neg (Ne.symm h)]
 show World.mk ((w.heap.push (.cells arr e)).modify w.heap.size _) _ _ _ _ = World.mk _ _ _ _ _
 rw [this]
 rfl
theorem IH {src dst e : TypeId} (hs : P.underlying src = some .string) (hd : P.underlying dst = some (.slice e)) (he : P.underlying e = some (.int .u8)) (l : List UInt8) :
  ∃ cap,l.length <= cap /\ (Go.convert src dst (.string ⟨l.toArray⟩)).run P w =
   .ok (.slice (some ⟨w.heap.size,0,none⟩) l.length cap) (w.drew.alloc (.cells ((l.map fun b : UInt8=>Value.int .u8 b.toNat) ++ List.replicate (cap - l.length) (Value.int .u8 0)).toArray e
    (((l.map fun b : UInt8=>Value.int .u8 b.toNat) ++ List.replicate (cap - l.length) (Value.int .u8 0)).toArray.size,((l.map fun b : UInt8=>Value.int .u8 b.toNat) ++ List.replicate (cap - l.length) (Value.int .u8 0)).toArray.size + 1))):=by
 refine ⟨grownCap w l.length 0 e,by simp [grownCap,Question.cut],?_⟩
 have e1 : (Array.map (fun b : UInt8=>Value.int .u8 b.toNat) l.toArray ++ Array.replicate (grownCap w l.length 0 e - l.length) (Value.int .u8 0)) =
   ((l.map fun b : UInt8=>Value.int .u8 b.toNat) ++ List.replicate (grownCap w l.length 0 e - l.length) (Value.int .u8 0)).toArray:=by
  apply Array.toList_inj.1;simp
 have hc : (choose (.appendCap l.length 0 e)).run P w = .ok (grownCap w l.length 0 e) w.drew:=by simp [Question.forced,grownCap]
 simp only [Go.convert,Sem.run_bind,run_underlying hs,run_underlying hd,run_underlying he,Result.andThen_ok,Conv.stringToBytes,vL,hc,newRow,run_newObj,Sem.run_pure,World.alloc_eq,e1,markStringish,run_shape]
 have hsh : (w.drew.alloc (.cells ((l.map fun b : UInt8=>Value.int .u8 b.toNat) ++ List.replicate (grownCap w l.length 0 e - l.length) (Value.int .u8 0)).toArray e)).shape? w.drew.heap.size =
   some (e,((l.map fun b : UInt8=>Value.int .u8 b.toNat) ++ List.replicate (grownCap w l.length 0 e - l.length) (Value.int .u8 0)).toArray.size):=by
  unfold World.shape?
  rw [nC]
 rw [hsh]
 simp only [run_freeze,Result.andThen_ok]
 rw [HB]
 rfl
theorem B0 (l : List UInt8) : Elems c 1 (cP l) (l.map fun b=>[Value.int .u8 b.toNat]):=by
 refine ⟨by simp [cP],fun i h h'=>⟨by simp [cP,D.cells],by simp [cP,D.cells,D.one],fun j hj hj'=>?_⟩,fun x hx=>?_⟩
 ·simp [cP,D.cells] at hj ⊢
  subst hj
  exact Rep.int _ _
 ·simp only [cP,List.mem_map] at hx
  obtain ⟨b,_,rfl⟩:=hx
  rfl
theorem rK (l : List UInt8) : (l.map fun b=>[Value.int .u8 b.toNat]).flatten = l.map fun b=>Value.int .u8 b.toNat:=by
 induction l with
 | nil=>rfl
 | cons b l ih=>simpa using ih
theorem Gq (k : Inv c w H) {src dst e : TypeId} (hs : P.underlying src = some .string) (hd : P.underlying dst = some (.slice e)) (he : P.underlying e = some (.int .u8)) {l : List UInt8} {v : Value} (hx : Rep c (.str l) v) {T : Tk} (hT : c.T = T) :
  Yld c w H T (.sl none (cP l)) ((Go.convert src dst v).run P w):=by
 cases hx with
 | str _ hl =>
  obtain ⟨cap,h1,h2⟩:=IH (P:=P) (w:=w) hs hd he l
  rw [h2]
  have:=K0 k.drew (B0 l) e (((l.map fun b : UInt8=>Value.int .u8 b.toNat) ++ List.replicate (cap - l.length) (Value.int .u8 0)).toArray.size,((l.map fun b : UInt8=>Value.int .u8 b.toNat) ++ List.replicate (cap - l.length) (Value.int .u8 0)).toArray.size + 1)
   (by simpa [cP] using hl) (List.replicate (cap - l.length) (.int .u8 0)) (cap:=cap) (by simpa [cP] using h1) hT
  rw [rK] at this
  simpa [cP] using this.drew
theorem KW (k : Inv c w H) {src dst e : TypeId} (hs : P.underlying src = some .string) (hd : P.underlying dst = some (.slice e)) (he : P.underlying e = some (.int .u8)) {l : List UInt8} {v : Value} (hx : Rep c (.str l) v) {T : Tk} (hT : c.T = T) :
  Yld c w H (T ++ [some (l.length,1)]) (.sl (some T.length) (cP l)) ((Go.convert src dst v).run P w):=by
 cases hx with
 | str _ hl =>
  obtain ⟨cap,h1,h2⟩:=IH (P:=P) (w:=w) hs hd he l
  rw [h2]
  have:=wY k.drew (B0 l) e (by simpa [cP] using hl) (List.replicate (cap - l.length) (.int .u8 0))
   (((l.map fun b : UInt8=>Value.int .u8 b.toNat) ++ List.replicate (cap - l.length) (Value.int .u8 0)).toArray.size,((l.map fun b : UInt8=>Value.int .u8 b.toNat) ++ List.replicate (cap - l.length) (Value.int .u8 0)).toArray.size + 1)
   (fun i hi=>by rw [rK] at hi;simp at hi ⊢;omega) (cap:=cap) (by simpa [cP] using h1) (by rw [rK];simp;omega) (τ:=T.length) (T':=T ++ [some (l.length,1)]) (by simp [cP]) (fun h=>by rw [hT] at h;omega)
   (fun j hj=>by
    rw [hT]
    rcases Nat.lt_or_ge j T.length with h' | h'
    ·rw [List.getElem?_append_left h']
    ·rw [List.getElem?_eq_none (by simp;omega),List.getElem?_eq_none h']) (by rw [hT];simp)
  rw [rK] at this
  simpa [cP] using this.drew
def Aq : Option Operand -> Option (Option Rd)
 | none=>some none
 | some x=>match cRd x with
  | some r=>some (some r)
  | none=>none
theorem n9 {oo : Option Operand} {o : Option Rd} (h : Aq oo = some o) : o = none /\ oo = none ∨ ∃ r x,o = some r /\ oo = some x /\ cRd x = some r:=by
 cases oo with
 | none=>simp [Aq] at h;exact .inl ⟨h.symm,rfl⟩
 | some x =>
  simp only [Aq] at h
  split at h
  ·rename_i r hr;injection h with h;exact .inr ⟨r,x,h.symm,rfl,hr⟩
  ·cases h
def xI (place : Nat -> Option (Nat × Nat)) : List (Nat × Operand) -> Option (List (Nat × Nat × Rd))
 | []=>some []
 | (i,x) :: ps=>match place i,cRd x,xI place ps with
  | some (off,sz),some r,some rs=>some ((off,sz,r) :: rs)
  | _,_,_=>none
def gG (P : Program) (fs : Array Field) : Nat -> Option (Nat × Nat):=fun i=>match fs[i]? with
 | some f=>match tsz P f.type with
  | some n=>some (f.offset,n)
  | none=>none
 | none=>none
def Eb (P : Program) (t : TypeId) : Bool:=match P.underlying t with | some (.int .u8)=>true | _=>false
def oU (P : Program) (t : TypeId) : Bool:=match P.underlying t with | some .string=>true | _=>false
def Lr (P : Program) (t : TypeId) : Option IntKind:=match P.underlying t with | some (.int k)=>some k | _=>none
theorem rH {t : TypeId} (h : Eb P t = true) : P.underlying t = some (.int .u8):=by unfold Eb at h;split at h <;> simp_all
theorem iR {t : TypeId} (h : oU P t = true) : P.underlying t = some .string:=by unfold oU at h;split at h <;> simp_all
theorem NA {t : TypeId} {k : IntKind} (h : Lr P t = some k) : P.underlying t = some (.int k):=by unfold Lr at h;split at h <;> simp_all
def Pw (P : Program) (mu dr : Bool) (src dst : TypeId) (r : Rd) : Option O :=
 match Lr P dst with
 | some k=>if (P.underlying src).isSome then some (.conv k r) else none
 | none =>
  if oU P dst then
   if oU P src then some (.mvs r) else
   match bH P src with
   | some e=>if Eb P e then some (if mu then .b2m r else .b2s r) else none
   | none=>none
  else if oU P src then
   match bH P dst with
   | some e=>if Eb P e then some (if dr then .s2bq r else .s2b r) else none
   | none=>none
  else none
def Kz (l : List (Nat × Operand)) (n : Nat) : Bool:=l.map (·.1) == List.range n
def Aa (P : Program) (t : TypeId) : Option (TypeId × TypeId):=match P.underlying t with
 | some (.map k e)=>some (k,e)
 | _=>none
theorem vB {t k e : TypeId} (h : Aa P t = some (k,e)) : P.underlying t = some (.map k e):=by unfold Aa at h;split at h <;> simp_all
def As (P : Program) (kt : TypeId) : Option (Bool × List Ck):=match uO P kt with
 | some k=>some (false,[k])
 | none=>match cks P kt with
  | some ks=>some (true,ks)
  | none=>none
def J4 (P : Program) (t : TypeId) : Option D:=match P.info? t with
 | some i=>match i.zero with
  | some v=>match Es v with
   | some z=>if pu1 z then some z else none
   | none=>none
  | none=>none
 | none=>none
theorem CU {t : TypeId} {z : D} (h : J4 P t = some z) (c : Cx) (w : World) : pu z = true /\ ∃ v : Value,(zeroValue t).run P w = .ok v w /\ Rep c z v:=by
 unfold J4 at h
 split at h
 ·rename_i i hi
  split at h
  ·rename_i v hz
   split at h
   ·rename_i z' hv
    split at h
    ·rename_i hp
     injection h with h;subst h
     obtain ⟨r1,r2⟩:=xV hv c
     refine ⟨?_,v,by simp [zeroValue,BF hi,hz],r1⟩
     cases z' <;> simp [pu1] at hp <;> simp [pu,pu1,hp]
    ·cases h
   ·cases h
  ·cases h
 ·cases h
structure Hn where
 imp : FuncId -> Bool
 mu : Bool
 own : FuncId -> Bool
 lit : Bool
structure Pl where
 pos : Nat
 fill : Option Nat
 re : Bool
def Mi (P : Program) (t : TypeId) : Bool:=match P.underlying t with
 | some (.int _)=>true
 | _=>false
theorem NG {t : TypeId} (h : Mi P t = true) : ∃ k,P.underlying t = some (.int k):=by
 unfold Mi at h
 split at h
 ·exact ⟨_,by assumption⟩
 ·cases h
def Fx (P : Program) (mu : Bool) (b : Builtin) (ats : List TypeId) (rs : List Rd) : Option O :=
 match b,ats,rs with
 | .len,[t],[x]=>if oU P t then some (.lens x) else if (bH P t).isSome then some (.len x) else if (Aa P t).isSome then some (.mlen x) else none
 | .cap,[t],[x]=>if (bH P t).isSome then some (.capz x) else none
 | .min,_,[x,y]=>some (.mn x y)
 | .max,_,[x,y]=>some (.mx x y)
 | .append,[st,xt],[x,y] =>
  match bH P st with
  | some e=>match tsz P e,lC P e,tz P e with
   | some sz,some by_,some z=>if Mi P xt && (z.length == sz) then some (.appz (tag P e == some true) sz by_ z x y) else if C9 P xt && (z.length == sz) && (!oU P xt || sz == 1) then some (if mu then .appm (tag P e == some true) (oU P xt) sz by_ x y else .app (oU P xt) sz by_ x y) else none
   | _,_,_=>none
  | none=>none
 | .copy,[dt,_],[x,y]=>match bH P dt with
  | some e=>match tsz P e with
   | some sz=>some (.copy sz x y)
   | none=>none
  | none=>none
 | .clear,[t],[x]=>match bH P t with
  | some e=>match tz P e with
   | some z=>some (.clr z x)
   | none=>none
  | none=>none
 | _,_,_=>none
def cOp (P : Program) (imp : Hn) (dr : Bool) (j : Pl) : Op -> Option O
 | .move x | .assign x=>match cRd x with | some r=>some (.mv r) | none=>none
 | .pick c a b=>match cRd c,cRd a,cRd b with
  | some c,some a,some b=>some (.pick c a b)
  | _,_,_=>none
 | .alloc t=>match tz P t with
  | some z=>some (if dr then (match j.fill with | some _=>.rawAt j.pos z | none=>.allocAt j.pos z) else .alloc z)
  | none=>none
 | .box _ x=>match cRd x with
  | some r=>some (if dr then .boxAt j.pos r else .box r)
  | none=>none
 | .build t ps=>match tz P t with
  | some z=>match jZ P t,mI P t with
   | some fs,_=>match xI (gG P fs) ps.toList with
    | some l=>if (List.range fs.size).all (fun i=>(gG P fs i).isSome) then some (.build z l) else none
    | none=>none
   | none,some (_,e)=>match tsz P e with
    | some sz=>match xI (fun i=>some (i * sz,sz)) ps.toList with
     | some l=>some (.build z l)
     | none=>none
    | none=>none
   | none,none=>none
  | none=>none
 | .buildSlice t n ps=>match bH P t with
  | some e=>match tsz P e,CA (ps.toList.map (·.2)) with
   | some sz,some rs=>if Kz ps.toList n && (tz P e).isSome && decide (n * sz <= 2 ^ 24) && decide (n <= 2 ^ 24) then some (if (dr && !j.re) then .bslq sz rs else if imp.mu then .bslm (tag P e == some true) sz rs else .bsl sz rs) else none
   | _,_=>none
  | none=>none
 | .load t x=>match tag P t,tsz P t,cRd x with
  | some ag,some n,some r=>some (.load ag n r)
  | _,_,_=>none
 | .store t x v=>match tsz P t,cRd x,cRd v with
  | some n,some r,some q=>some (match j.fill with | some m=>.fillAt m n r q | none=>.store n r q)
  | _,_,_=>none
 | .nilCheck x=>match cRd x with | some r=>some (.nilc r) | none=>none
 | .binOp op t x y _=>match cRd x,cRd y with
  | some r,some q =>
   if op == .eql || op == .neq then
    match cks P t with
    | some ks=>some (.eqa ks (op == .neq) r q)
    | none=>match Ro P t with
     | some k=>if xZ y || k != .ifc then some (.eq1 k (op == .neq) r q) else none
     | none=>some (.bin op r q)
   else some (.bin op r q)
  | _,_=>none
 | .unOp op _ x=>match cRd x with | some r=>some (.un op r) | none=>none
 | .convert src dst x=>match cRd x with | some r=>Pw P imp.mu dr src dst r | none=>none
 | .makeFunc (.func f) first cap=>match CA first.toList,CA cap.toList with
  | some a,some b=>some (.mkfn f a b)
  | _,_=>none
 | .slice t x lo hi none=>match cRd x,Aq lo,Aq hi with
  | some r,some l,some h=>if oU P t then some (.subs r l h) else match bH P t with
   | some e=>match tsz P e with
    | some sz=>some (.sls sz r l h)
    | none=>none
   | none=>none
  | _,_,_=>none
 | .slice t x lo hi (some m)=>match cRd x,Aq lo,Aq hi,cRd m with
  | some r,some l,some (some h),some q=>match bH P t with
   | some e=>match tsz P e with
    | some sz=>some (.sls3 sz r l (some h) (some q))
    | none=>none
   | none=>none
  | _,_,_,_=>none
 | .makeSlice t n m=>match cRd n,cRd m with
  | some r,some q=>match bH P t with
   | some e=>match tsz P e,lC P e,tz P e with
    | some sz,some by_,some z=>some (.mkm (tag P e == some true) sz by_ z r q)
    | _,_,_=>none
   | none=>none
  | _,_=>none
 | .fieldAddr t x k=>match jZ P t,cRd x with
  | some fs,some r=>match fs[k]? with
   | some f=>match tsz P f.type with
    | some (n + 1)=>some (.faddr f.offset r)
    | _=>none
   | none=>none
  | _,_=>none
 | .field t x k=>match jZ P t,cRd x with
  | some fs,some r=>match fs[k]? with
   | some f=>match tag P f.type,tsz P f.type with
    | some ag,some n=>some (.field ag f.offset n r)
    | _,_=>none
   | none=>none
  | _,_=>none
 | .indexAddr t x i=>match cRd x,cRd i with
  | some r,some q=>match bH P t,mI P t with
   | some e,_=>match tsz P e with
    | some sz=>some (.iaddr sz r q)
    | none=>none
   | none,some (len,e)=>match tsz P e with
    | some sz=>some (.iarr sz len r q)
    | none=>none
   | none,none=>none
  | _,_=>none
 | .index t x i=>match cRd x,cRd i with
  | some r,some q=>if oU P t then some (.idxs r q) else match mI P t with
   | some (len,e)=>match tsz P e,tag P e with
    | some sz,some ag=>some (.idxa ag sz len r q)
    | _,_=>none
   | none=>none
  | _,_=>none
 | .extract x k=>match cRd x with | some r=>some (.ext k r) | none=>none
 | .makeMap t none=>if dr then none else if (Aa P t).isSome then some .mkmap else none
 | .lookup t m k ok=>match Aa P t,cRd m,cRd k with
  | some (kt,et),some r,some q=>match As P kt,J4 P et with
   | some ks,some z=>some (.mget ks z ok r q)
   | _,_=>none
  | _,_,_=>none
 | .mapUpdate t m k v=>match Aa P t,cRd m,cRd k,cRd v with
  | some (kt,_),some r,some q,some p=>match As P kt with
   | some ks=>some (.mput ks r q p)
   | none=>none
  | _,_,_,_=>none
 | .mapEntry t m k=>match Aa P t,cRd m,cRd k with
  | some (kt,et),some r,some q=>match As P kt,J4 P et with
   | some ks,some z=>some (.ment ks z r q)
   | _,_=>none
  | _,_,_=>none
 | .entryStore _ m b v=>match cRd m,cRd b,cRd v with
  | some r,some q,some p=>some (.mst r q p)
  | _,_,_=>none
 | .call { callee:=.builtin b,args,argTypes }=>match CA args.toList with
  | some rs=>Fx P imp.mu b argTypes.toList rs
  | none=>none
 | .call { callee:=.value f,args,.. }=>match cRd f,CA args.toList with
  | some r,some rs=>some (match f with
   | .func g=>if imp.imp g || (!dr && imp.own g) then .call r rs else .pcall r rs
   | _=>if imp.mu && imp.imp 1000000 then .call r rs else .pcall r rs)
  | _,_=>none
 | _=>none
def Res (c : Cx) (w : World) (s : S) (K : D -> S -> Prop) (v : Value) (w' : World) : Prop :=
 ∃ d s' c',K d s' /\ s'.t = s.t /\ Rep c' d v /\ Inv c' w' s'.H /\ c.le c' /\ c'.T = s'.T /\ Below c.bb w w'
def bJ (c : Cx) (w : World) (Q : dM) (e : Ending) (w' : World) : Prop :=
 ∃ v,e = .returned v /\ ∃ r H' T' c',Q r H' T' /\ Rep c' r v /\ Inv c' w' H' /\ c.le c' /\ c'.T = T' /\ Below c.bb w w'
class HasG (P : Program) where
 G : Cx -> World -> Prop
 mono : ∀ {c c' : Cx} {w w' : World},c.le c' -> Below c.bb w w' -> G c w -> G c' w'
def Snd (P : Program) [HasG P] : d8:=fun f args H T Q=>∀ (c : Cx) (w : World) (vs : List Value),HasG.G P c w -> Inv c w H -> c.T = T -> Reps c args vs →
 ((callFunc f vs.toArray).run P w = .ok (.enter f vs.toArray) w /\ Calls P f vs.toArray w (bJ c w Q)) ∨
 ∃ v w',(callFunc f vs.toArray).run P w = .ok (.value v) w' /\ bJ c w Q (.returned v) w'
theorem Res.of_yld {c : Cx} {w : World} {s s' : S} {K : D -> S -> Prop} {d : D} {v : Value} {w' : World} (h : Yld c w s'.H s'.T d (.ok v w')) (hk : K d s') (ht : s'.t = s.t) : Res c w s K v w':=by
 obtain ⟨v',c',w'',e,h1,h2,h3,h4,h5⟩:=h
 injection e with e1 e2
 subst e1;subst e2
 exact ⟨d,s',c',hk,ht,h1,h2,h3,h4,h5⟩
theorem Yld.ok {c : Cx} {w : World} {H' : Hp} {T' : Tk} {d : D} {r : Result Value} (h : Yld c w H' T' d r) : ∃ v w',r = .ok v w':=let ⟨v,_,w',e,_⟩:=h;⟨v,w',e⟩
theorem Res.quiet {c : Cx} {w : World} {s : S} {a : Act} (hs : Sim c s a w) {K : D -> S -> Prop} {d : D} {v : Value} (hk : K d s) (hr : Rep c d v) : Res c w s K v w :=
 ⟨d,s,c,hk,rfl,hr,hs.inv,Cx.le.refl c,hs.T,Below.refl _ _⟩
end GP
namespace GP
open Go
variable {P : Program} {X : d8} {imp : Hn} {dr : Bool} {j : Pl} {c : Cx} {s : S} {a : Act} {w : World} {K : D -> S -> Prop}
def cK (P : Program) (o : Oper) (a : Act) (c : Cx) (w : World) (s : S) (K : D -> S -> Prop) : Prop :=
 (∃ v w',(execOp a.eval o).run P w = .ok (.value v) w' /\ Res c w s K v w') ∨
 (∃ w',(execOp a.eval o).run P w = .ok .skip w' /\ Res c w s K undef w') ∨
 (∃ f args,(execOp a.eval o).run P w = .ok (.enter f args) w /\ Calls P f args w (fun e w'=>∃ v,e = .returned v /\ Res c w s K v w'))
theorem uX {o : Oper} {m : Sem Value} (he : execOp a.eval o = do pure (.value (← m))) {v : Value} {w' : World} (hm : m.run P w = .ok v w') (hr : Res c w s K v w') : cK P o a c w s K :=
 .inl ⟨v,w',by rw [he];simp [hm],hr⟩
theorem aR {o : Oper} {m : Sem Value} (hs : Sim c s a w) (he : execOp a.eval o = do pure (.value (← m))) {d : D} (hk : K d s) (h : ∃ u,m.run P w = .ok u w /\ Rep c d u) : cK P o a c w s K:=by
 obtain ⟨u,h1,h2⟩:=h
 exact uX he h1 (.quiet hs hk h2)
theorem dW {o : Oper} {m : Sem Value} (he : execOp a.eval o = do pure (.value (← m))) {d : D} {s' : S} (hk : K d s') (ht : s'.t = s.t) (h : Yld c w s'.H s'.T d (m.run P w)) : cK P o a c w s K:=by
 obtain ⟨v,w',e⟩:=h.ok
 rw [e] at h
 exact uX he e (.of_yld h hk ht)
theorem cY {o : Option D} (h : K1 K s o) : ∃ d,o = some d /\ K d s:=by
 cases o with
 | none=>exact h.elim
 | some d=>exact ⟨d,rfl,h⟩
theorem BE [HasG P] (hX : ∀ f args H T Q,X f args H T Q -> Snd P f args H T Q) {dst : Option Tmp} {f : Operand} {args : Array Operand} {ats : Array TypeId} {ty : TypeId} {pos : String} {after : Array Edge} {guard : Option (Nat × Bool)}
  (hG : HasG.G P c w) (hs : Sim c s a w) {r : Rd} {rs : List Rd} (hf : cRd f = some r) (hargs : CA args.toList = some rs) {g : FuncId} {first cap : List D} (hr : s.ev r = .fn g first cap) {Q : dM}
  (hQ : X g (first ++ rs.map s.ev ++ cap) s.H s.T Q) (hK : ∀ d H T,Q d H T -> K d ⟨s.t,H,T⟩) :
  cK P ⟨dst,.call { callee:=.value f,args,argTypes:=ats },ty,pos,after,guard⟩ a c w s K:=by
 have hrf:=aW hf hs.fr
 rw [hr] at hrf
 have hra:=nM hargs hs.fr
 generalize hv : a.eval f = vf at hrf
 cases hrf with
 | fn _ _ _ vp vq hp hq hpr hqr =>
  have hreps : Reps c (first ++ rs.map s.ev ++ cap) (vp ++ args.toList.map a.eval ++ vq):=(Reps.append ⟨hp,hpr⟩ hra).append ⟨hq,hqr⟩
  have hres : ∀ m,(execOp a.eval ⟨dst,.call { callee:=.value f,args,argTypes:=ats },ty,pos,after,guard⟩).run P w = m ↔ (callFunc g (vp ++ args.toList.map a.eval ++ vq).toArray).run P w = m:=by
   intro m
   have : (vp.toArray ++ args.map a.eval ++ vq.toArray) = (vp ++ args.toList.map a.eval ++ vq).toArray:=by
    apply Array.toList_inj.1;simp
   simp only [execOp,resolve,hv,Deferred.ofValue,pure_bind,invoke,this]
  have hpost : ∀ v w',bJ c w Q (.returned v) w' -> Res c w s K v w':=by
   rintro v w' ⟨v',e,r',H',T',c',h1,h2,h3,h4,h5,h6⟩
   injection e with e;subst e
   exact ⟨r',⟨s.t,H',T'⟩,c',hK _ _ _ h1,rfl,h2,h3,h4,h5,h6⟩
  rcases hX _ _ _ _ _ hQ c w _ hG hs.inv hs.T hreps with ⟨h1,h2⟩ | ⟨v,w',h1,h2⟩
  ·refine .inr (.inr ⟨g,_,(hres _).2 h1,h2.mono ?_⟩)
   rintro e w' hp
   obtain ⟨v,rfl,_⟩:=id hp
   exact ⟨v,rfl,hpost v w' hp⟩
  ·exact .inl ⟨v,w',(hres _).2 h1,hpost v w' h2⟩
theorem yD {place : Nat -> Option (Nat × Nat)} (hf : FR c s.t a) : ∀ {ps : List (Nat × Operand)} {l : List (Nat × Nat × Rd)},xI place ps = some l -> (l.all fun p=>(s.ev p.2.2).okc) = true →
  PartsRep c place (l.map fun p=>(p.1,p.2.1,s.ev p.2.2)) (ps.map fun p=>(p.1,a.eval p.2))
 | [],l,h,_=>by simp [xI] at h;subst h;exact .nil
 | (i,x) :: ps,l,h,hk=>by
  simp only [xI] at h
  split at h
  ·rename_i off sz r rs h1 h2 h3
   injection h with h;subst h
   simp only [List.all_cons,Bool.and_eq_true] at hk
   exact .cons h1 (aW h2 hf) hk.1 (yD hf h3 hk.2)
  ·cases h
theorem EX {t : TypeId} {fs : Array Field} {z r : List D} (ht : jZ P t = some fs) (hz : tz P t = some z) {ps : List (Nat × Value)} {l : List (Nat × Nat × D)} (hp : PartsRep c (gG P fs) l ps)
  (hall : (List.range fs.size).all (fun i=>(gG P fs i).isSome) = true) (ha : (l.all fun p=>p.2.2.cells.length == p.2.1) = true) (hr : sX z (l.map fun p=>(p.1,p.2.2.cells)) = some r) :
  ∃ u,(Instr.build t ps.toArray).run P w = .ok u w /\ Rep c (.agg r) u:=by
 obtain ⟨zv,z1,z2⟩:=kG (P:=P) hz c
 obtain ⟨cs',h1,h2⟩:=Bd hp z2 ha hr
 have hm : ∀ l : List Field,(∀ f ∈ l,∃ n,tsz P f.type = some n) -> (l.mapM (fun f=>do pure (f.offset,← Go.sizeOf f.type) : Field -> Sem (Nat × Nat))).run P w = .ok (l.map fun f=>(f.offset,(tsz P f.type).getD 0)) w:=by
  intro l
  induction l with
  | nil=>intro _;simp
  | cons f l ih =>
   intro h
   obtain ⟨n,hn⟩:=h f (by simp)
   have ih':=ih (fun g hg=>h g (by simp [hg]))
   simp only [List.mapM_cons,Sem.run_bind,aZ hn,Result.andThen_ok,Sem.run_pure,ih',List.map_cons,hn,Option.getD_some]
 have hfs : ∀ f ∈ fs.toList,∃ n,tsz P f.type = some n:=by
  intro f hf
  obtain ⟨i,hi,rfl⟩:=List.getElem_of_mem hf
  have hi' : i < fs.size:=by simpa using hi
  have:=List.all_eq_true.1 hall i (by simpa using hi')
  simp only [gG,Array.getElem?_eq_getElem hi'] at this
  have e : fs.toList[i] = fs[i]:=by simp
  rw [e]
  cases hn : tsz P (fs[i]).type with
  | none=>rw [hn] at this;cases this
  | some n=>exact ⟨n,rfl⟩
 have hplace : (fun i=>(fs.toList.map fun f=>(f.offset,(tsz P f.type).getD 0)).toArray[i]?) = gG P fs:=by
  funext i
  simp only [gG]
  rcases Nat.lt_or_ge i fs.size with hi | hi
  ·obtain ⟨n,hn⟩:=hfs fs[i] (by simp)
   simp [Array.getElem?_eq_getElem hi,hn]
  ·simp [Array.getElem?_eq_none hi]
 refine ⟨.agg cs',?_,Rep.agg _ _ h2.len h2.one h2.rep⟩
 have hm':=hm fs.toList hfs
 have : (fs.mapM (fun f=>do pure (f.offset,← Go.sizeOf f.type) : Field -> Sem (Nat × Nat))).run P w = .ok (fs.toList.map fun f=>(f.offset,(tsz P f.type).getD 0)).toArray w:=by
  rw [Array.mapM_eq_mapM_toList]
  rw [Sem.run_map]
  simp only [hm',Result.andThen_ok]
 simp only [Instr.build,Sem.run_bind,z1,Result.andThen_ok,run_underlying (qY ht),this]
 rw [hplace,h1]
 simp
theorem FM {t e : TypeId} {len sz : Nat} {z r : List D} (ht : mI P t = some (len,e)) (hsz : tsz P e = some sz) (hz : tz P t = some z) {ps : List (Nat × Value)} {l : List (Nat × Nat × D)} (hp : PartsRep c (fun i=>some (i * sz,sz)) l ps)
  (ha : (l.all fun p=>p.2.2.cells.length == p.2.1) = true) (hr : sX z (l.map fun p=>(p.1,p.2.2.cells)) = some r) :
  ∃ u,(Instr.build t ps.toArray).run P w = .ok u w /\ Rep c (.agg r) u:=by
 obtain ⟨zv,z1,z2⟩:=kG (P:=P) hz c
 obtain ⟨cs',h1,h2⟩:=Bd hp z2 ha hr
 refine ⟨.agg cs',?_,Rep.agg _ _ h2.len h2.one h2.rep⟩
 simp only [Instr.build,Sem.run_bind,z1,Result.andThen_ok,run_underlying (uE ht),aZ hsz]
 rw [h1]
 simp
end GP
namespace GP
open Go
variable {P : Program} {X : d8} {imp : Hn} {dr : Bool} {j : Pl} {c : Cx} {s : S} {a : Act} {w : World} {K : D -> S -> Prop}
theorem Dc {i : Nat} {z : List D} {o : Option Ob} (h : atK K s i z o) : o = some .hole /\ K (.ptr i 0) ⟨s.t,s.H.set i (.row z),s.T⟩:=by
 unfold atK at h
 split at h
 ·exact ⟨rfl,h⟩
 ·exact h.elim
theorem IL {i : Nat} {z : List D} {o : Option Ob} (h : zP K s i z o) : o = some .hole /\ K (.ptr i 0) ⟨s.t,s.H.set i (.raw z),s.T⟩:=by
 unfold zP at h
 split at h
 ·exact ⟨rfl,h⟩
 ·exact h.elim
theorem BZ {i n : Nat} {a v : D} {o : Option Ob} (h : tB K s i n a v o) : ∃ z,o = some (.raw z) /\ a = .ptr i 0 /\ z.length = n /\ v.okc = true /\ v.cells.length = n /\ K .top ⟨s.t,s.H.set i (.row v.cells),s.T⟩:=by
 unfold tB at h
 split at h
 ·exact ⟨_,rfl,h⟩
 ·exact h.elim
theorem Cb (hs : Sim c s a w) {o : Oper} {e : TypeId} {m : Sem Value} (he : execOp a.eval o = do pure (.value (← m))) {cs : List D} {vs : List Value} (hc : Cells c cs vs)
  (hm : m.run P w = .ok (.pointer (some ⟨w.heap.size,0,none⟩)) (w.alloc (.cells vs.toArray e))) (hk : K (.ptr s.H.length 0) ⟨s.t,s.H ++ [.row cs],s.T⟩) : cK P o a c w s K:=by
 have:=IR hs.inv (e:=e) hc (o:=s.H.length) (hs.inv.free _ (.inl (Nat.le_refl _))) (H':=s.H ++ [.row cs]) (rT _ _) rfl (fun o h=>jR _ _ o h) hs.T
 rw [<- hm] at this
 exact dW he hk rfl this
theorem At (hs : Sim c s a w) {o : Oper} {e : TypeId} {m : Sem Value} (he : execOp a.eval o = do pure (.value (← m))) {cs : List D} {vs : List Value} (hc : Cells c cs vs)
  (hm : m.run P w = .ok (.pointer (some ⟨w.heap.size,0,none⟩)) (w.alloc (.cells vs.toArray e))) {i : Nat} (hi : s.H[i]? = some .hole) {x0 : Ob} (hx0 : x0.cells? = some cs) (hk : K (.ptr i 0) ⟨s.t,s.H.set i x0,s.T⟩) : cK P o a c w s K:=by
 have hlt : i < s.H.length:=by
  rcases Nat.lt_or_ge i s.H.length with h' | h'
  ·exact h'
  ·rw [List.getElem?_eq_none h'] at hi;cases hi
 have:=IR hs.inv (e:=e) hc (o:=i) (hs.inv.free _ (.inr hi)) (H':=s.H.set i x0) (by simp [hlt]) hx0 (fun o h=>by rw [List.getElem?_set_ne (Ne.symm h)]) hs.T
 rw [<- hm] at this
 exact dW he hk rfl this
theorem M7 {o : Oper} {t : TypeId} (ho : o.op = .alloc t) {oo : O} (h : cOp P imp dr j o.op = some oo) (hs : Sim c s a w) (hW : WO X oo s K) : cK P o a c w s K:=by
 rw [ho] at h
 simp only [cOp] at h
 split at h
 ·rename_i z hz
  injection h with h;subst h
  obtain ⟨zv,z1,z2⟩:=kG (P:=P) hz c
  have he : execOp a.eval o = (do pure (.value (← Instr.alloc t true (.tuple #[])))):=by unfold execOp;simp only [ho]
  have hm : (Instr.alloc t true (.tuple #[])).run P w = .ok (.pointer (some ⟨w.heap.size,0,none⟩)) (w.alloc (.cells zv.cells.toList.toArray t)):=by
   simp [Instr.alloc,z1,newVar,newRow]
  cases dr
  ·exact Cb hs he z2 hm hW
  ·simp only [if_true] at hW
   split at hW
   ·obtain ⟨h1,h2⟩:=IL hW.2
    exact At hs he z2 hm h1 rfl h2
   ·obtain ⟨h1,h2⟩:=Dc hW
    exact At hs he z2 hm h1 rfl h2
 ·cases h
theorem QU {o : Oper} {t : TypeId} {x : Operand} (ho : o.op = .box t x) {oo : O} (h : cOp P imp dr j o.op = some oo) (hs : Sim c s a w) (hW : WO X oo s K) : cK P o a c w s K:=by
 rw [ho] at h
 simp only [cOp] at h
 split at h
 ·rename_i r hr
  injection h with h;subst h
  have hrep:=aW hr hs.fr
  have he : execOp a.eval o = (do pure (.value (← Instr.box t (a.eval x)))):=by unfold execOp;simp only [ho]
  have hm : (Instr.box t (a.eval x)).run P w = .ok (.pointer (some ⟨w.heap.size,0,none⟩)) (w.alloc (.cells (a.eval x).cells.toList.toArray t)):=by
   simp [Instr.box,newVar,newRow]
  cases dr
  ·obtain ⟨hk,hW⟩:=hW
   exact Cb hs he (hrep.cells hk) hm hW
  ·obtain ⟨hk,hW⟩:=hW
   obtain ⟨h1,h2⟩:=Dc hW
   exact At hs he (hrep.cells hk) hm h1 rfl h2
 ·cases h
theorem QN {o : Oper} {t : TypeId} {n : Nat} {ps : Array (Nat × Operand)} (ho : o.op = .buildSlice t n ps) {oo : O} (h : cOp P imp dr j o.op = some oo) (hs : Sim c s a w) (hW : WO X oo s K) : cK P o a c w s K:=by
 rw [ho] at h
 simp only [cOp] at h
 split at h
 ·rename_i e ht
  split at h
  ·rename_i sz rs hsz hrs
   split at h
   ·rename_i hc
    simp only [Bool.and_eq_true,decide_eq_true_eq] at hc
    obtain ⟨⟨⟨hidx,hz⟩,hsmall⟩,hn⟩:=hc
    injection h with h
    have hreps:=nM hrs hs.fr
    have hlen : ps.toList.length = n:=by
     simp only [Kz,beq_iff_eq] at hidx
     have:=congrArg List.length hidx
     simpa using this
    have hrl : rs.length = n:=by have:=hreps.len;simp at this;rw [<- this];simpa using hlen
    have hparts : (ps.map fun (i,x)=>(i,a.eval x)) = (((ps.toList.map (·.2)).map a.eval).zipIdx 0 |>.map fun p=>(p.2,p.1)).toArray:=by
     apply Array.toList_inj.1
     simp only [Array.toList_map]
     simp only [Kz,beq_iff_eq] at hidx
     apply List.ext_getElem
     ·simp
     ·intro i h1 h2
      have hi : i < ps.toList.length:=by simpa using h1
      have : (ps.toList.map (·.1))[i]'(by simpa using hi) = i:=by simp only [hidx];simp
      simp only [List.getElem_map] at this
      have this : ps[i].1 = i:=by simpa using this
      simp [this]
    have he : execOp a.eval o = (do pure (.value (← Instr.buildSlice t n (((ps.toList.map (·.2)).map a.eval).zipIdx 0 |>.map fun p=>(p.2,p.1)).toArray))):=by
     unfold execOp;simp only [ho,hparts]
    have key : ∀ (hf : (rs.map s.ev).all (fit sz) = true),(Instr.buildSlice t n (((ps.toList.map (·.2)).map a.eval).zipIdx 0 |>.map fun p=>(p.2,p.1)).toArray).run P w =
      .ok (.slice (some ⟨w.heap.size,0,none⟩) n n) (w.alloc (.cells (((ps.toList.map (·.2)).map a.eval).map fun v=>v.cells.toList).flatten.toArray e)) /\ Elems c sz (rs.map s.ev) (((ps.toList.map (·.2)).map a.eval).map fun v=>v.cells.toList):=by
     intro hf
     have hel:=hreps.elems hf
     have hvl : ((ps.toList.map (·.2)).map a.eval).length = n:=by simpa using hlen
     have:=OH (P:=P) (w:=w) ht hsz hz ((ps.toList.map (·.2)).map a.eval) (fun v hv=>by
      have:=hel.sz' v.cells.toList (List.mem_map.2 ⟨v,hv,rfl⟩)
      simpa using this) (by rw [hvl];exact hsmall) c
     rw [hvl] at this
     exact ⟨this,hel⟩
    have hl62 : (rs.map s.ev).length < 2 ^ 62:=by simp only [List.length_map,hrl];omega
    have hxl : (rs.map s.ev).length = n:=by simp [hrl]
    cases hdr : (dr && !j.re)
    ·rw [hdr] at h
     simp only [Bool.false_eq_true,if_false] at h
     split at h
     ·subst h
      obtain ⟨hf,hW⟩:=hW
      obtain ⟨k1,k2⟩:=key hf
      have:=Ef hs.inv [] e k2.cells (hs.inv.free s.H.length (.inl (Nat.le_refl _))) (H':=s.H ++ [.row (aT (rs.map s.ev))]) (rT _ _) (fun o' h=>jR _ _ o' h) hs.T (ag:=tag P e == some true) (sz:=sz) (n:=n) (cap:=n) (rc:=n)
       (Nat.le_refl _) (Nat.le_refl _) (by rw [eW _ k2.sz',k2.len,hxl];simp)
      rw [List.append_nil,← k1] at this
      rw [hrl] at hW
      exact dW he hW rfl this
     subst h
     obtain ⟨hf,hW⟩:=hW
     obtain ⟨k1,k2⟩:=key hf
     have:=wY hs.inv k2 e hl62 [] (0,0) (fun i _=>by simp) (cap:=n) (by rw [hxl];exact Nat.le_refl _) (by rw [eW _ k2.sz',k2.len,hxl];simp) (τ:=s.T.length) (T':=s.T ++ [some (rs.length,sz)])
      (by simp) (fun h=>by rw [hs.T] at h;omega) (fun j hj=>by
       rw [hs.T]
       rcases Nat.lt_or_ge j s.T.length with h' | h'
       ·rw [List.getElem?_append_left h']
       ·rw [List.getElem?_eq_none (by simp;omega),List.getElem?_eq_none h']) (by rw [hs.T];simp)
     rw [List.append_nil,hxl,← k1] at this
     exact dW he hW rfl this
    ·rw [hdr] at h
     simp only [if_true] at h;subst h
     obtain ⟨d,hd,hW⟩:=cY hW
     simp only [qv] at hd
     split at hd
     ·rename_i hf
      injection hd with hd;subst hd
      obtain ⟨k1,k2⟩:=key hf
      have:=JW hs.inv k2 e hl62 hs.T
      rw [hxl,← k1] at this
      exact dW he hW rfl this
     ·cases hd
   ·cases h
  ·cases h
 ·cases h
theorem L3 {o : Oper} {t : TypeId} {x v : Operand} (ho : o.op = .store t x v) {oo : O} (h : cOp P imp dr j o.op = some oo) (hs : Sim c s a w) (hW : WO X oo s K) : cK P o a c w s K:=by
 rw [ho] at h
 simp only [cOp] at h
 split at h
 ·rename_i n r q hn hr hq
  injection h with h
  split at h
  ·subst h
   obtain ⟨_,hW⟩:=hW
   change tB K s _ n (s.ev r) (s.ev q) _ at hW
   obtain ⟨z,hz,ha,hzl,h1,h2,hk⟩:=BZ hW
   obtain ⟨w',e1,e2,e3⟩:=CN (P:=P) hs.inv hn (aW hr hs.fr) (aW hq hs.fr) ha hz rfl h1 h2 (by omega)
   rw [List.take_zero,List.nil_append,List.drop_eq_nil_of_le (by omega),List.append_nil] at e2
   refine .inr (.inl ⟨w',?_,⟨_,_,c,hk,rfl,Rep.top _,e2,Cx.le.refl c,hs.T,e3⟩⟩)
   unfold execOp
   simp [ho,e1]
  ·subst h
   change eA n K s (s.ev r) (s.ev q) at hW
   unfold eA at hW
   split at hW
   ·rename_i o' off hev
    split at hW
    ·rename_i cs hH
     obtain ⟨h1,h2,h3,hk⟩:=hW
     obtain ⟨w',e1,e2,e3⟩:=GF (P:=P) hs.inv hn (aW hr hs.fr) (aW hq hs.fr) hev hH h1 h2 h3
     refine .inr (.inl ⟨w',?_,⟨_,_,c,hk,rfl,Rep.top _,e2,Cx.le.refl c,hs.T,e3⟩⟩)
     unfold execOp
     simp [ho,e1]
    ·exact hW.elim
   ·exact hW.elim
 ·cases h
theorem Mz {o : Oper} {t : TypeId} {ps : Array (Nat × Operand)} (ho : o.op = .build t ps) {oo : O} (h : cOp P imp dr j o.op = some oo) (hs : Sim c s a w) (hW : WO X oo s K) : cK P o a c w s K:=by
 rw [ho] at h
 have he : execOp a.eval o = (do pure (.value (← Instr.build t (ps.toList.map fun p=>(p.1,a.eval p.2)).toArray))):=by
  unfold execOp;simp only [ho]
  congr 2
  apply Array.toList_inj.1
  simp
 simp only [cOp] at h
 split at h
 ·rename_i z hz
  split at h
  ·rename_i fs _ ht
   split at h
   ·rename_i l hl
    split at h
    ·rename_i hall
     injection h with h;subst h
     obtain ⟨d,hd,hW⟩:=cY hW
     simp only [qv,pW] at hd
     split at hd
     ·rename_i hfit
      have hok : (l.all fun p=>(s.ev p.2.2).okc) = true:=List.all_eq_true.2 fun p hp=>by
       have:=List.all_eq_true.1 hfit _ (List.mem_map.2 ⟨p,hp,rfl⟩)
       simp only [fit,Bool.and_eq_true] at this
       exact this.1
      have hsz : ((l.map fun p=>(p.1,p.2.1,s.ev p.2.2)).all fun p=>p.2.2.cells.length == p.2.1) = true:=List.all_eq_true.2 fun p hp=>by
       have:=List.all_eq_true.1 hfit p hp
       simp only [fit,Bool.and_eq_true] at this
       exact this.2
      cases hfd : sX z ((l.map fun p=>(p.1,p.2.1,s.ev p.2.2)).map fun p=>(p.1,p.2.2.cells)) with
      | none=>rw [hfd] at hd;cases hd
      | some r =>
       rw [hfd] at hd;injection hd with hd;subst hd
       exact aR hs he hW (EX (P:=P) (w:=w) ht hz (yD hs.fr hl hok) hall hsz hfd)
     ·cases hd
    ·cases h
   ·cases h
  ·rename_i len e _ ht
   split at h
   ·rename_i sz hsz0
    split at h
    ·rename_i l hl
     injection h with h;subst h
     obtain ⟨d,hd,hW⟩:=cY hW
     simp only [qv,pW] at hd
     split at hd
     ·rename_i hfit
      have hok : (l.all fun p=>(s.ev p.2.2).okc) = true:=List.all_eq_true.2 fun p hp=>by
       have:=List.all_eq_true.1 hfit _ (List.mem_map.2 ⟨p,hp,rfl⟩)
       simp only [fit,Bool.and_eq_true] at this
       exact this.1
      have hsz : ((l.map fun p=>(p.1,p.2.1,s.ev p.2.2)).all fun p=>p.2.2.cells.length == p.2.1) = true:=List.all_eq_true.2 fun p hp=>by
       have:=List.all_eq_true.1 hfit p hp
       simp only [fit,Bool.and_eq_true] at this
       exact this.2
      cases hfd : sX z ((l.map fun p=>(p.1,p.2.1,s.ev p.2.2)).map fun p=>(p.1,p.2.2.cells)) with
      | none=>rw [hfd] at hd;cases hd
      | some r =>
       rw [hfd] at hd;injection hd with hd;subst hd
       exact aR hs he hW (FM (P:=P) (w:=w) ht hsz0 hz (yD hs.fr hl hok) hsz hfd)
     ·cases hd
    ·cases h
   ·cases h
  ·cases h
 ·cases h
theorem RD {o : Oper} {op : BinOp} {t t' : TypeId} {x y : Operand} (ho : o.op = .binOp op t x y t') {oo : O} (h : cOp P imp dr j o.op = some oo) (hs : Sim c s a w) (hW : WO X oo s K) : cK P o a c w s K:=by
 rw [ho] at h
 have he : execOp a.eval o = (do pure (.value (← (do eqGuard op t x y (a.eval x) (a.eval y);Go.binOp op t (a.eval x) (a.eval y) : Sem Value)))):=by unfold execOp;simp only [ho]
 simp only [cOp] at h
 split at h
 ·rename_i r q hr hq
  have hxr:=aW hr hs.fr
  have hyr:=aW hq hs.fr
  have plain : ∀ oo',some (O.bin op r q) = some oo' -> WO X oo' s K -> cK P o a c w s K:=by
   intro oo' h' hW'
   injection h' with h';subst h'
   obtain ⟨d,hd,hW'⟩:=cY hW'
   exact aR hs he hW' (Jh hxr hyr hd)
  split at h
  ·rename_i hop
   have hneg : op = (if (op == BinOp.neq) = true then BinOp.neq else .eql):=by
    simp only [Bool.or_eq_true,beq_iff_eq] at hop
    rcases hop with h | h <;> subst h <;> rfl
   split at h
   ·rename_i ks hks
    injection h with h;subst h
    obtain ⟨d,hd,hW⟩:=cY hW
    simp only [qv] at hd
    unfold Lk at hd
    split at hd
    ·rename_i xs ys e1 e2
     split at hd
     ·rename_i hk
      cases hb : bA xs ys with
      | none=>rw [hb] at hd;cases hd
      | some b =>
       rw [hb] at hd;injection hd with hd;subst hd
       refine aR hs he hW ⟨_,?_,Rep.bool _⟩
       have:=KI (P:=P) (w:=w) hks hxr hyr e1 e2 hk hb (op == .neq) x y
       rw [<- hneg] at this
       exact this
     ·cases hd
    ·cases hd
   ·split at h
    ·rename_i k hk
     split at h
     ·rename_i hc
      injection h with h;subst h
      obtain ⟨d,hd,hW⟩:=cY hW
      simp only [qv] at hd
      cases hb : E2 k (s.ev r) (s.ev q) with
      | none=>rw [hb] at hd;cases hd
      | some b =>
       rw [hb] at hd;injection hd with hd;subst hd
       refine aR hs he hW ⟨_,?_,Rep.bool _⟩
       have:=KL (P:=P) (w:=w) hk hxr hyr hb (op == .neq) x y (fun e=>by subst e;simpa using hc)
       rw [<- hneg] at this
       exact this
     ·cases h
    ·exact plain oo h hW
  ·exact plain oo h hW
 ·cases h
theorem PW {o : Oper} {src dst : TypeId} {x : Operand} (ho : o.op = .convert src dst x) {oo : O} (h : cOp P imp dr j o.op = some oo) (hs : Sim c s a w) (hW : WO X oo s K) : cK P o a c w s K:=by
 rw [ho] at h
 have he : execOp a.eval o = (do pure (.value (← Go.convert src dst (a.eval x)))):=by unfold execOp;simp only [ho]
 simp only [cOp] at h
 split at h
 ·rename_i r hr
  have hxr:=aW hr hs.fr
  unfold Pw at h
  split at h
  ·rename_i k hk
   split at h
   ·rename_i hsrc
    injection h with h;subst h
    obtain ⟨d,hd,hW⟩:=cY hW
    simp only [qv] at hd
    split at hd
    ·rename_i k' n hev
     injection hd with hd;subst hd
     rw [hev] at hxr
     generalize a.eval x = v at *
     cases hxr
     exact aR hs he hW ⟨_,Hf hsrc (NA hk),Rep.int _ _⟩
    ·cases hd
   ·cases h
  ·split at h
   ·rename_i hds
    split at h
    ·rename_i hss
     injection h with h;subst h
     obtain ⟨d,hd,hW⟩:=cY hW
     simp only [qv] at hd
     split at hd
     ·rename_i l hev
      injection hd with hd;subst hd
      rw [hev] at hxr
      generalize a.eval x = v at *
      refine aR hs he hW ⟨v,?_,hxr⟩
      cases hxr
      simp [Go.convert,run_underlying (iR hss),run_underlying (iR hds)]
     ·cases hd
    ·split at h
     ·rename_i e hsl
      split at h
      ·rename_i h8
       injection h with h
       split at h
       ·subst h
        obtain ⟨d,hd,hW⟩:=cY hW
        exact aR hs he hW (KQ (bC hsl) (rH h8) (iR hds) hs.inv hxr hd)
       ·subst h
        obtain ⟨d,hd,hW⟩:=cY hW
        exact aR hs he hW (xT (bC hsl) (rH h8) (iR hds) hs.inv hxr hd)
      ·cases h
     ·cases h
   ·split at h
    ·rename_i hss
     split at h
     ·rename_i e hsl
      split at h
      ·rename_i h8
       cases dr
       ·simp only [Bool.false_eq_true,if_false] at h
        injection h with h;subst h
        change zX K s (s.ev r) at hW
        unfold zX at hW
        split at hW
        ·rename_i l hev
         rw [hev] at hxr
         exact dW he hW rfl (KW (P:=P) hs.inv (iR hss) (bC hsl) (rH h8) hxr hs.T)
        ·exact hW.elim
       ·simp only [if_true] at h
        injection h with h;subst h
        obtain ⟨d,hd,hW⟩:=cY hW
        simp only [qv] at hd
        split at hd
        ·rename_i l hev
         injection hd with hd;subst hd
         rw [hev] at hxr
         exact dW he hW rfl (Gq (P:=P) hs.inv (iR hss) (bC hsl) (rH h8) hxr hs.T)
        ·cases hd
      ·cases h
     ·cases h
    ·cases h
 ·cases h
theorem NT {o : Oper} {t : TypeId} {x : Operand} {lo hi mx : Option Operand} (ho : o.op = .slice t x lo hi mx) {oo : O} (h : cOp P imp dr j o.op = some oo) (hs : Sim c s a w) (hW : WO X oo s K) : cK P o a c w s K:=by
 rw [ho] at h
 cases mx with
 | some m =>
  have he : execOp a.eval o = (do pure (.value (← Instr.sliceAt t (a.eval x) (lo.map a.eval) (hi.map a.eval) ((some m).map a.eval)))):=by unfold execOp;simp only [ho]
  simp only [cOp] at h
  split at h
  ·rename_i r l p q hr hl hp hq
   split at h
   ·rename_i e hsl
    split at h
    ·rename_i sz hsz
     injection h with h;subst h
     obtain ⟨d,hd,hW⟩:=cY hW
     simp only [qv] at hd
     split at hd
     ·rename_i n hn
      have hhi : ∃ r x,some p = some r /\ hi = some x /\ cRd x = some r:=by
       rcases n9 hp with ⟨e,_⟩ | ⟨r',x',e1,e2,e3⟩
       ·cases e
       ·exact ⟨r',x',e1,e2,e3⟩
      exact aR hs he hW (H0 hsl hsz hs.fr (n9 hl) hhi ⟨q,m,rfl,rfl,hq⟩ (aW hr hs.fr) hn hd)
     ·cases hd
    ·cases h
   ·cases h
  ·cases h
 | none =>
  have he : execOp a.eval o = (do pure (.value (← Instr.sliceAt t (a.eval x) (lo.map a.eval) (hi.map a.eval) none))):=by unfold execOp;simp only [ho];rfl
  simp only [cOp] at h
  split at h
  ·rename_i r l q hr hl hq
   have hxr:=aW hr hs.fr
   split at h
   ·rename_i hst
    injection h with h;subst h
    obtain ⟨d,hd,hW⟩:=cY hW
    simp only [qv] at hd
    split at hd
    ·rename_i n hn
     exact aR hs he hW (H4 (iR hst) hs.fr (n9 hl) (n9 hq) hxr hn hd)
    ·cases hd
   ·split at h
    ·rename_i e hsl
     split at h
     ·rename_i sz hsz
      injection h with h;subst h
      obtain ⟨d,hd,hW⟩:=cY hW
      simp only [qv] at hd
      split at hd
      ·rename_i n hn
       exact aR hs he hW (Jn hsl hsz hs.fr (n9 hl) (n9 hq) hxr hn hd)
      ·cases hd
     ·cases h
    ·cases h
  ·cases h
theorem Nl {o : Oper} {t : TypeId} {x y : Operand} (ho : o.op = .makeSlice t x y) {oo : O} (h : cOp P imp dr j o.op = some oo) (hs : Sim c s a w) (hW : WO X oo s K) : cK P o a c w s K:=by
 rw [ho] at h
 have he : execOp a.eval o = (do pure (.value (← Instr.makeSlice t (a.eval x) (a.eval y)))):=by unfold execOp;simp only [ho]
 simp only [cOp] at h
 split at h
 ·rename_i r q hr hq
  split at h
  ·rename_i e hsl
   split at h
   ·rename_i sz by_ z hsz hby hz
    injection h with h;subst h
    obtain ⟨d,s',hk,ht,hy⟩:=Km (P:=P) hs.inv hsl hsz hby hz (aW hr hs.fr) (aW hq hs.fr) rfl hs.T hW
    exact dW he hk ht hy
   ·cases h
  ·cases h
 ·cases h
theorem Mj {o : Oper} {t : TypeId} {x i : Operand} (ho : o.op = .index t x i) {oo : O} (h : cOp P imp dr j o.op = some oo) (hs : Sim c s a w) (hW : WO X oo s K) : cK P o a c w s K:=by
 rw [ho] at h
 have he : execOp a.eval o = (do pure (.value (← Instr.index t (a.eval x) (a.eval i)))):=by unfold execOp;simp only [ho]
 simp only [cOp] at h
 split at h
 ·rename_i r q hr hq
  have hxr:=aW hr hs.fr
  have hir:=aW hq hs.fr
  split at h
  ·rename_i hst
   injection h with h;subst h
   obtain ⟨d,hd,hW⟩:=cY hW
   exact aR hs he hW (H5 (iR hst) hxr hir hd)
  ·split at h
   ·rename_i len e ha
    split at h
    ·rename_i sz ag hsz hag
     injection h with h;subst h
     obtain ⟨d,hd,hW⟩:=cY hW
     exact aR hs he hW (HU ha hsz hag hxr hir hd)
    ·cases h
   ·cases h
 ·cases h
theorem Mu {o : Oper} {t : TypeId} {x i : Operand} (ho : o.op = .indexAddr t x i) {oo : O} (h : cOp P imp dr j o.op = some oo) (hs : Sim c s a w) (hW : WO X oo s K) : cK P o a c w s K:=by
 rw [ho] at h
 have he : execOp a.eval o = (do pure (.value (← Instr.indexAt t (a.eval x) (a.eval i)))):=by unfold execOp;simp only [ho]
 simp only [cOp] at h
 split at h
 ·rename_i r q hr hq
  have hxr:=aW hr hs.fr
  have hir:=aW hq hs.fr
  split at h
  ·rename_i e _ hsl
   split at h
   ·rename_i sz hsz
    injection h with h;subst h
    obtain ⟨d,hd,hW⟩:=cY hW
    exact aR hs he hW (F0 hsl hsz hxr hir hd)
   ·cases h
  ·rename_i len e _ ha
   split at h
   ·rename_i sz hsz
    injection h with h;subst h
    obtain ⟨d,hd,hW⟩:=cY hW
    exact aR hs he hW (HY ha hsz hxr hir hd)
   ·cases h
  ·cases h
 ·cases h
theorem Mw {o : Oper} {t : TypeId} {x : Operand} {k : Nat} (ho : o.op = .fieldAddr t x k) {oo : O} (h : cOp P imp dr j o.op = some oo) (hs : Sim c s a w) (hW : WO X oo s K) : cK P o a c w s K:=by
 rw [ho] at h
 have he : execOp a.eval o = (do pure (.value (← Instr.fieldAt t (a.eval x) k))):=by unfold execOp;simp only [ho]
 simp only [cOp] at h
 split at h
 ·rename_i fs r ht hr
  have hxr:=aW hr hs.fr
  split at h
  ·rename_i f hf
   split at h
   ·rename_i n hn
    injection h with h;subst h
    obtain ⟨d,hd,hW⟩:=cY hW
    exact aR hs he hW (Gc ht hf hn (by omega) hxr hd)
   ·cases h
  ·cases h
 ·cases h
theorem LC {o : Oper} {t : TypeId} {x : Operand} {k : Nat} (ho : o.op = .field t x k) {oo : O} (h : cOp P imp dr j o.op = some oo) (hs : Sim c s a w) (hW : WO X oo s K) : cK P o a c w s K:=by
 rw [ho] at h
 have he : execOp a.eval o = (do pure (.value (← Instr.field t (a.eval x) k))):=by unfold execOp;simp only [ho]
 simp only [cOp] at h
 split at h
 ·rename_i fs r ht hr
  have hxr:=aW hr hs.fr
  split at h
  ·rename_i f hf
   split at h
   ·rename_i ag n hag hn
    injection h with h;subst h
    obtain ⟨d,hd,hW⟩:=cY hW
    exact aR hs he hW (Ge ht hf hag hn hxr hd)
   ·cases h
  ·cases h
 ·cases h
theorem Nn {o : Oper} {t : TypeId} {x : Operand} (ho : o.op = .load t x) {oo : O} (h : cOp P imp dr j o.op = some oo) (hs : Sim c s a w) (hW : WO X oo s K) : cK P o a c w s K:=by
 rw [ho] at h
 have he : execOp a.eval o = (do pure (.value (← Instr.loadAt t (a.eval x)))):=by unfold execOp;simp only [ho]
 simp only [cOp] at h
 split at h
 ·rename_i ag n r hag hn hr
  injection h with h;subst h
  obtain ⟨d,hd,hW⟩:=cY hW
  exact aR hs he hW (AW hs.inv (aW hr hs.fr) hag hn hd)
 ·cases h
theorem M2 (ρ : Operand -> Value) (dst : Option Tmp) (b : Builtin) (xs : Array Operand) (ats : Array TypeId) (ty : TypeId) (pos : String) (after : Array Edge) (guard : Option (Nat × Bool)) :
  execOp ρ { dst,op:=.call { callee:=.builtin b,args:=xs,argTypes:=ats },type:=ty,pos,after,guard } = Go.builtin b ats ty (xs.map fun | .const _=>true | _=>false) (xs.map ρ):=rfl
theorem Xm (ats : Array TypeId) (ty : TypeId) (cs : Array Bool) (args : Array Value) : Go.builtin .len ats ty cs args = (do pure (.value (← Builtin.len_ ats ty args))):=rfl
theorem Tu (ats : Array TypeId) (ty : TypeId) (cs : Array Bool) (args : Array Value) : Go.builtin .cap ats ty cs args = (do pure (.value (← Builtin.cap_ ats ty args))):=rfl
theorem V7 (ats : Array TypeId) (ty : TypeId) (cs : Array Bool) (args : Array Value) : Go.builtin .min ats ty cs args = (do pure (.value (← Builtin.min_ ats ty args))):=rfl
theorem XN (ats : Array TypeId) (ty : TypeId) (cs : Array Bool) (args : Array Value) : Go.builtin .max ats ty cs args = (do pure (.value (← Builtin.max_ ats ty args))):=rfl
theorem LE (ats : Array TypeId) (ty : TypeId) (cs : Array Bool) (args : Array Value) : Go.builtin .append ats ty cs args = (do pure (.value (← Builtin.append_ ats ty args))):=rfl
theorem Rp (ats : Array TypeId) (ty : TypeId) (cs : Array Bool) (args : Array Value) : Go.builtin .copy ats ty cs args = (do pure (.value (← Builtin.copy_ ats ty args))):=rfl
theorem OK (ats : Array TypeId) (ty : TypeId) (cs : Array Bool) (args : Array Value) : Go.builtin .clear ats ty cs args = (do pure (.value (← Builtin.clear_ ats ty args))):=rfl
theorem wU {args : Array Operand} {x y : Rd} (hreps : Reps c ([x,y].map s.ev) (args.toList.map a.eval)) : ∃ v u,args.map a.eval = #[v,u] /\ Rep c (s.ev x) v /\ Rep c (s.ev y) u:=by
 have hl:=hreps.len
 simp at hl
 obtain ⟨v,u,hv⟩ : ∃ v u,args.toList = [v,u]:=by
  have hl' : args.toList.length = 2:=by simpa using hl
  match h : args.toList,hl' with
  | [v,u],_=>exact ⟨v,u,rfl⟩
 have h0:=hreps.rep 0 (by simp) (by simp [hv])
 have h1:=hreps.rep 1 (by simp) (by simp [hv])
 exact ⟨a.eval v,a.eval u,by apply Array.toList_inj.1;simp [hv],by simpa [hv] using h0,by simpa [hv] using h1⟩
theorem Dt {c : Cx} {w : World} {H : Hp} (k : Inv c w H) {t kt et : TypeId} (hu : P.underlying t = some (.map kt et)) {d : D} {es : List (D × D × Nat)} (h : kS H d = some es) {v : Value} (hr : Rep c d v) (ty : TypeId) :
  (Builtin.len_ #[t] ty #[v]).run P w = .ok (.int .i64 (es.length : Int)) w:=by
 unfold kS at h
 split at h
 ·injection h with h;subst h
  cases hr
  simp [Builtin.len_,run_underlying hu,goInt]
 ·rename_i o
  split at h
  ·rename_i es' clk ho
   injection h with h;subst h
   obtain ⟨_,g2⟩:=k.map o _ _ ho
   cases hr
   have : (getObj (c.β o)).run P w = .ok (.map (List.map iP es').toArray clk) w:=by simp [getObj,Sem.run,g2]
   simp [Builtin.len_,run_underlying hu,this,goInt]
  ·cases h
 ·cases h
theorem HE {o : Oper} {b : Builtin} {args : Array Operand} {ats : Array TypeId} (ho : o.op = .call { callee:=.builtin b,args,argTypes:=ats }) {oo : O} (h : cOp P imp dr j o.op = some oo) (hs : Sim c s a w) (hW : WO X oo s K) : cK P o a c w s K:=by
 rw [ho] at h
 obtain ⟨dst,op,ty,pos,after,guard⟩:=o
 simp only at ho
 subst ho
 have he:=M2 a.eval dst b args ats ty pos after guard
 simp only [cOp] at h
 split at h
 ·rename_i rs hrs
  have hreps:=nM hrs hs.fr
  unfold Fx at h
  split at h
  ·-- len
   rename_i t x hats
   have hargs : ∃ v,args.map a.eval = #[v] /\ Rep c (s.ev x) v:=by
    have hl:=hreps.len
    simp at hl
    obtain ⟨v,hv⟩ : ∃ v,args.toList = [v]:=List.length_eq_one_iff.1 (by simpa using hl)
    have:=hreps.rep 0 (by simp) (by simp [hv])
    refine ⟨a.eval v,by apply Array.toList_inj.1;simp [hv],by simpa [hv] using this⟩
   obtain ⟨v,hv,hrep⟩:=hargs
   have hat : ats = #[t]:=by apply Array.toList_inj.1;simpa using hats
   subst hat
   rw [hv,Xm] at he
   split at h
   ·rename_i hst
    injection h with h;subst h
    obtain ⟨d,hd,hW⟩:=cY hW
    simp only [qv] at hd
    cases hn : kO (s.ev x) with
    | none=>rw [hn] at hd;cases hd
    | some n =>
     rw [hn] at hd;injection hd with hd;subst hd
     exact aR hs he hW ⟨_,Hc (iR hst) hrep hn ty,Rep.int _ _⟩
   ·split at h
    ·rename_i hsl
     obtain ⟨e,hsl⟩:=Option.isSome_iff_exists.1 hsl
     injection h with h;subst h
     obtain ⟨d,hd,hW⟩:=cY hW
     simp only [qv] at hd
     cases hn : dZ (s.ev x) with
     | none=>rw [hn] at hd;cases hd
     | some n =>
      rw [hn] at hd;injection hd with hd;subst hd
      exact aR hs he hW ⟨_,KK hsl hrep hn ty,Rep.int _ _⟩
    ·split at h
     ·rename_i hm
      obtain ⟨⟨kt,et⟩,hm⟩:=Option.isSome_iff_exists.1 hm
      injection h with h;subst h
      obtain ⟨d,hd,hW⟩:=cY hW
      simp only [qv] at hd
      cases hes : kS s.H (s.ev x) with
      | none=>rw [hes] at hd;cases hd
      | some es =>
       rw [hes] at hd;injection hd with hd;subst hd
       exact aR hs he hW ⟨_,Dt hs.inv (vB hm) hes hrep ty,Rep.int _ _⟩
     ·cases h
  ·-- cap
   rename_i t x hats
   have hargs : ∃ v,args.map a.eval = #[v] /\ Rep c (s.ev x) v:=by
    have hl:=hreps.len
    simp at hl
    obtain ⟨v,hv⟩ : ∃ v,args.toList = [v]:=List.length_eq_one_iff.1 (by simpa using hl)
    have:=hreps.rep 0 (by simp) (by simp [hv])
    refine ⟨a.eval v,by apply Array.toList_inj.1;simp [hv],by simpa [hv] using this⟩
   obtain ⟨v,hv,hrep⟩:=hargs
   have hat : ats = #[t]:=by apply Array.toList_inj.1;simpa using hats
   subst hat
   rw [hv,Tu] at he
   split at h
   ·rename_i hsl
    obtain ⟨e,hsl⟩:=Option.isSome_iff_exists.1 hsl
    injection h with h;subst h
    obtain ⟨d,hd,hW⟩:=cY hW
    simp only [qv] at hd
    cases hn : CE (s.ev x) with
    | none=>rw [hn] at hd;cases hd
    | some n =>
     rw [hn] at hd;injection hd with hd;subst hd
     exact aR hs he hW ⟨_,K3 hsl hrep hn ty,Rep.int _ _⟩
   ·cases h
  ·rename_i x y
   obtain ⟨v,u,hv,hrep,hrep'⟩:=wU hreps
   rw [hv,V7] at he
   injection h with h;subst h
   obtain ⟨d,hd,hW⟩:=cY hW
   exact aR hs he hW (NU hrep hrep' hd)
  ·rename_i x y
   obtain ⟨v,u,hv,hrep,hrep'⟩:=wU hreps
   rw [hv,XN] at he
   injection h with h;subst h
   obtain ⟨d,hd,hW⟩:=cY hW
   exact aR hs he hW (NC hrep hrep' hd)
  ·rename_i st xt x y hats
   obtain ⟨v,u,hv,hrep,hrep'⟩:=wU hreps
   rw [hv,LE] at he
   have hat : ats = #[st,xt]:=by apply Array.toList_inj.1;simpa using hats
   subst hat
   split at h
   ·rename_i e hsl
    split at h
    ·rename_i sz by_ z hsz hby hz
     split at h
     ·rename_i hc
      simp only [Bool.and_eq_true,beq_iff_eq] at hc
      obtain ⟨ki,hki⟩:=NG hc.1
      injection h with h;subst h
      obtain ⟨d,s',hk,ht,hy⟩:=Hh (P:=P) hs.inv hsl hki hsz hby hz ty hrep hrep' rfl hs.T hW
      exact dW he hk ht hy
     split at h
     ·rename_i hc
      simp only [Bool.and_eq_true,beq_iff_eq,Bool.or_eq_true,Bool.not_eq_true'] at hc
      obtain ⟨⟨h1,h2⟩,h3⟩:=hc
      injection h with h
      have hstr : ∀ l,s.ev y = .str l -> oU P xt = true -> sz = 1:=by
       intro l hl hst
       rcases h3 with h3 | h3
       ·rw [hst] at h3;cases h3
       ·exact h3
      split at h
      ·subst h
       obtain ⟨d,s',hk,ht,hy⟩:=Hq (P:=P) hs.inv hsl h1 hsz hby hz h2 ty hrep hrep' hstr rfl hs.T _ hW
       exact dW he hk ht hy
      subst h
      obtain ⟨d,s',hk,ht,hy⟩:=JU (P:=P) hs.inv hsl h1 hsz hby hz h2 ty hrep hrep' hstr rfl hs.T hW
      exact dW he hk ht hy
     ·cases h
    ·cases h
   ·cases h
  ·rename_i dt st x y hats
   obtain ⟨v,u,hv,hrep,hrep'⟩:=wU hreps
   rw [hv,Rp] at he
   have hat : ats = #[dt,st]:=by apply Array.toList_inj.1;simpa using hats
   subst hat
   split at h
   ·rename_i e hsl
    split at h
    ·rename_i sz hsz
     injection h with h;subst h
     obtain ⟨d,s',hk,ht,hy⟩:=Gz (P:=P) (st:=st) hs.inv hsl hsz ty hrep hrep' rfl hs.T hW
     exact dW he hk ht hy
    ·cases h
   ·cases h
  ·rename_i t x hats
   have hargs : ∃ v,args.map a.eval = #[v] /\ Rep c (s.ev x) v:=by
    have hl:=hreps.len
    simp at hl
    obtain ⟨v,hv⟩ : ∃ v,args.toList = [v]:=List.length_eq_one_iff.1 (by simpa using hl)
    have:=hreps.rep 0 (by simp) (by simp [hv])
    refine ⟨a.eval v,by apply Array.toList_inj.1;simp [hv],by simpa [hv] using this⟩
   obtain ⟨v,hv,hrep⟩:=hargs
   have hat : ats = #[t]:=by apply Array.toList_inj.1;simpa using hats
   subst hat
   rw [hv,OK] at he
   split at h
   ·rename_i e hsl
    split at h
    ·rename_i z hz
     injection h with h;subst h
     obtain ⟨d,s',hk,ht,hy⟩:=Js (P:=P) hs.inv hsl hz ty hrep rfl hs.T hW
     exact dW he hk ht hy
    ·cases h
   ·cases h
  ·cases h
 ·cases h
end GP
