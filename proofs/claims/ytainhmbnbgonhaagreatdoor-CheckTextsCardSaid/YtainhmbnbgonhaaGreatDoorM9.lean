import Derived.Test.YtainhmbnbgonhaaGreatDoorProg
import Derived.Test.YtainhmbnbgonhaaGreatDoorM5
import Derived.Test.YtainhmbnbgonhaaGreatDoorM7
set_option linter.unusedSimpArgs false
set_option linter.unnecessarySimpa false
namespace GP
open Go
theorem jG {X : d8} {c : C} {Q : Ex -> S -> Prop} {s : S} (xs : List D) (J : Nat -> S -> Prop) (hX : uL X) (h0 : J 0 s) (step : ∀ i x s,xs[i]? = some x -> x ∈ xs -> i < xs.length -> J i s -> W X c (m9 (J (i + 1)) Q) s) (fin : ∀ s,J xs.length s -> W X c (m9 (fun _=>False) Q) s) : W X (.loop c) Q s:=by
 refine bG (fun i s=>i <= xs.length /\ J i s) xs.length ⟨0,Nat.zero_le _,h0⟩ (fun i s h=>h.1) (fun i s h=>?_) hX
 rcases Nat.lt_or_ge i xs.length with hi | hi
 ·refine fE hX ?_ (step i xs[i] s (by simp [hi]) (List.getElem_mem hi) hi h.2)
  intro e s' k
  cases e with
  | normal=>exact ⟨hi,k⟩
  | exit j=>exact k
  | ret=>exact k
 ·have : i = xs.length:=by omega
  subst this
  refine fE hX ?_ (fin s h.2)
  intro e s' k
  cases e with
  | normal=>exact k.elim
  | exit j=>exact k
  | ret=>exact k
theorem I0 {X : d8} {c : C} {Q : Ex -> S -> Prop} {s : S} (xs : List D) (p : D -> Bool) (ti : Nat) (R : S -> Prop) (hX : uL X) (h0 : R s) (h1 : s.t ti = .int .i64 ((0 : Nat) : Int))
  (step : ∀ i x s (b : Bool),xs[i]? = some x -> x ∈ xs -> i < xs.length -> R s -> s.t ti = .int .i64 (i : Int) -> p x = b -> (b = false -> xs.all p = false) -> W X c (m9 (fun s'=>b = true /\ R s' /\ s'.t ti = .int .i64 ((i + 1 : Nat) : Int)) Q) s)
  (fin : ∀ s,R s -> s.t ti = .int .i64 (xs.length : Int) -> xs.all p = true -> W X c (m9 (fun _=>False) Q) s) : W X (.loop c) Q s:=by
 refine jG xs (fun i s=>R s /\ s.t ti = .int .i64 (i : Int) /\ (xs.take i).all p = true) hX ⟨h0,h1,by simp⟩ (fun i x s hx hm hi hJ=>?_) (fun s hJ=>?_)
 ·obtain ⟨j1,j2,j3⟩:=hJ
  refine fE hX ?_ (step i x s (p x) hx hm hi j1 j2 rfl fun hb=>?_)
  ·intro e s' k
   cases e with
   | normal =>
    obtain ⟨k1,k2,k3⟩:=k
    refine ⟨k2,k3,?_⟩
    have e : xs.take (i + 1) = xs.take i ++ [x]:=by
     rw [List.take_add_one,hx];rfl
    rw [e,List.all_append,j3]
    simp [k1]
   | exit j=>exact k
   | ret=>exact k
  ·rw [<- Bool.not_eq_true,List.all_eq_true]
   intro h
   rw [h x hm] at hb;cases hb
 ·obtain ⟨j1,j2,j3⟩:=hJ
  exact fin s j1 j2 (by rwa [List.take_length] at j3)
def kV (sz : Nat) (T : Tk) (xs : List D) (d : D) (T' : Tk) : Prop:=bQ T T' /\ ((xs = [] /\ d = .nils) ∨ ∃ i,T.length <= i /\ d = .sl (some i) xs /\ T'[i]? = some (some (xs.length,sz)))
theorem kV.nil (sz : Nat) (T : Tk) {T' : Tk} (h : bQ T T') : kV sz T [] .nils T':=⟨h,.inl ⟨rfl,rfl⟩⟩
theorem kV.app {sz : Nat} {T T' : Tk} {xs : List D} {d : D} (h : kV sz T xs d T') (L : Tk) : kV sz T xs d (T' ++ L):=by
 obtain ⟨h1,h2⟩:=h
 refine ⟨h1.app L,?_⟩
 rcases h2 with h2 | ⟨i,h2,h3,h4⟩
 ·exact .inl h2
 ·refine .inr ⟨i,h2,h3,?_⟩
  have : i < T'.length:=by
   rcases Nat.lt_or_ge i T'.length with h | h
   ·exact h
   ·rw [List.getElem?_eq_none h] at h4;cases h4
  rw [List.getElem?_append_left this];exact h4
theorem kV.mk (sz : Nat) (T : Tk) {T' : Tk} (h : bQ T T') (xs : List D) (L : Tk) : kV sz T xs (.sl (some T'.length) xs) (T' ++ some (xs.length,sz) :: L):=by
 obtain ⟨M,rfl⟩:=h
 refine ⟨⟨M ++ some (xs.length,sz) :: L,by simp⟩,.inr ⟨_,by simp,rfl,by simp⟩⟩
theorem kV.erase {sz : Nat} {T T' : Tk} {xs : List D} {d : D} (h : kV sz T xs d T') (he : D.eraseL xs = xs) (h0 : xs ≠ []) : d.erase = .sl none xs:=by
 rcases h.2 with ⟨rfl,rfl⟩ | ⟨i,_,rfl,_⟩
 ·exact (h0 rfl).elim
 ·simp [D.erase,he]
theorem BD {sz bytes : Nat} {K : D -> S -> Prop} {t : Nat -> D} {H : Hp} {T T' : Tk} {xs : List D} {d : D} (ys : List D) (h : kV sz T xs d T') (hy : ys.all (fit sz) = true) (hxs : xs.all (fit sz) = true) (hb : (xs.length + ys.length) * bytes <= 2 ^ 47) (hb2 : xs.length + ys.length < 2 ^ 62)
  (k : ∀ d2 T2,kV sz T (xs ++ ys) d2 T2 -> K d2 ⟨t,H,T2⟩) : mB sz bytes K ⟨t,H,T'⟩ d (some ys):=by
 obtain ⟨h1,h2⟩:=h
 rcases h2 with ⟨rfl,rfl⟩ | ⟨i,hi,rfl,hT⟩
 ·simp only [mB]
  refine ⟨hy,?_⟩
  simp only [List.nil_append,List.length_nil,Nat.zero_add] at k hb hb2
  split
  ·rename_i e;subst e;exact k _ _ (.nil sz T h1)
  ·exact ⟨hb,hb2,k _ _ (.mk sz T h1 ys [])⟩
 ·simp only [mB]
  refine ⟨hy,hT,hb,hb2,hxs,k _ _ ⟨?_,.inr ⟨i,hi,rfl,?_⟩⟩⟩
  ·obtain ⟨L,rfl⟩:=h1
   exact ⟨L.set (i - T.length) (some (xs.length + ys.length,sz)),by rw [List.set_append_right _ _ hi]⟩
  ·have : i < T'.length:=by
    rcases Nat.lt_or_ge i T'.length with h | h
    ·exact h
    ·rw [List.getElem?_eq_none h] at hT;cases hT
   rw [List.getElem?_set_self this];simp
end GP
namespace GP
open Go
abbrev Nm:=List UInt8 × List UInt8
def c9 (p : Nm) : D:=.agg [.str p.1,.str p.2]
abbrev kSS : Bool × List Ck:=(true,[.str,.str])
def QR (p : Nm) : Prop:=p.1.length < 2 ^ 62 /\ p.2.length < 2 ^ 62
theorem DX {p : Nm} (h : QR p) : kok kSS (c9 p) = true:=by
 simp [kok,c9,pu,pu1,fV,ckD,h.1,h.2]
theorem wD (p q : Nm) : keq kSS (c9 p) (c9 q) = some (p == q):=by
 show (if fV [D.str p.1,.str p.2] [.str,.str] = true then bA [D.str p.1,.str p.2] [.str q.1,.str q.2] else none) = some (p == q)
 rw [if_pos (by simp [fV,ckD])]
 simp only [bA,iF]
 obtain ⟨a,b⟩:=p
 obtain ⟨c,d⟩:=q
 congr 1
 rw [Bool.eq_iff_iff]
 simp
structure MpS (ps : List Nm) (es : List (D × D × Nat)) (clk : Nat) : Prop where
 k : es.map (fun e=>e.1) = ps.map c9
 v : ∀ x ∈ es,∃ n : Int,x.2.1 = .int .i64 n
 b : ∀ (i : Nat) e,es[i]? = some e -> e.2.2 = i
 c : clk = es.length
theorem MpS.nil : MpS [] [] 0:=⟨rfl,by simp,by simp,rfl⟩
theorem Mq {p : Nm} : ∀ {ps : List Nm} {es : List (D × D × Nat)} (i : Nat),es.map (fun e=>e.1) = ps.map c9 -> p ∉ ps -> fnd kSS (c9 p) es i = some none
 | [],[],_,_,_=>rfl
 | [],_ :: _,_,h,_=>by simp at h
 | _ :: _,[],_,h,_=>by simp at h
 | q :: ps,(k,v,b) :: es,i,h,hp=>by
  simp only [List.map_cons,List.cons.injEq] at h
  simp only [List.mem_cons,not_or] at hp
  have hk : k = c9 q:=h.1
  have e : (p == q) = false:=by simpa using hp.1
  simp only [fnd,hk,wD,e]
  exact Mq (i + 1) h.2 hp.2
theorem J2 {p : Nm} : ∀ {ps : List Nm} {es : List (D × D × Nat)} (i : Nat),es.map (fun e=>e.1) = ps.map c9 -> p ∈ ps -> ∃ j v b,fnd kSS (c9 p) es i = some (some (i + j,v,b)) /\ es[j]? = some (c9 p,v,b)
 | [],_,_,_,h=>by cases h
 | _ :: _,[],_,h,_=>by simp at h
 | q :: ps,(k,v,b) :: es,i,h,hp=>by
  simp only [List.map_cons,List.cons.injEq] at h
  have hk : k = c9 q:=h.1
  by_cases e : p = q
  ·subst e
   refine ⟨0,v,b,?_,by simp [hk]⟩
   simp only [fnd,hk,wD,beq_self_eq_true,Nat.add_zero]
  ·have e' : (p == q) = false:=by simpa using e
   have hp : p ∈ ps:=by
    rcases List.mem_cons.1 hp with h | h
    ·exact absurd h e
    ·exact h
   obtain ⟨j,v',b',h1,h2⟩:=J2 (i + 1) h.2 hp
   refine ⟨j + 1,v',b',?_,by simpa using h2⟩
   simp only [fnd,hk,wD,e']
   rw [h1,show i + 1 + j = i + (j + 1) by omega]
theorem Q7 {α : Type} {l : List α} {i : Nat} {x : α} (h : l[i]? = some x) : l.set i x = l:=by
 apply List.ext_getElem?
 intro j
 by_cases e : i = j
 ·subst e
  have : i < l.length:=by
   rcases Nat.lt_or_ge i l.length with h' | h'
   ·exact h'
   ·rw [List.getElem?_eq_none h'] at h;cases h
  rw [List.getElem?_set_self this,h]
 ·rw [List.getElem?_set_ne e]
theorem Fk {ks : Bool × List Ck} {zv k : D} {K : D -> S -> Prop} {t : Nat -> D} {B : Hp} {U : Tk} {o clk : Nat} {es : List (D × D × Nat)} (hk : kok ks k = true) (hz : pu zv = true) (ho : B[o]? = some (.map es clk)) {r : Option (Nat × D × Nat)} (hf : fnd ks k es 0 = some r)
  (h : match r with
   | some (i,v,b)=>K (.tup [v,.int .i64 (b : Int)]) ⟨t,B.set o (.map (es.set i (k,v,b)) clk),U⟩
   | none=>K (.tup [zv,.int .i64 (clk : Int)]) ⟨t,B.set o (.map (es ++ [(k,zv,clk)]) (clk + 1)),U⟩) : D6 ks zv K ⟨t,B,U⟩ (.mp o) k:=by
 refine ⟨hk,hz,?_⟩
 simp only [ho,hf]
 cases r with
 | none=>exact h
 | some p=>exact h
theorem IU {K : D -> S -> Prop} {t : Nat -> D} {B : Hp} {U : Tk} {o clk i : Nat} {n : Int} {v : D} {e : D × D × Nat} {es : List (D × D × Nat)} (hv : pu v = true) (ho : B[o]? = some (.map es clk)) (hf : es.findIdx? (fun e=>(e.2.2 : Int) == n) = some i) (he : es[i]? = some e)
  (h : K .top ⟨t,B.set o (.map (es.set i (e.1,v,e.2.2)) clk),U⟩) : Ja K ⟨t,B,U⟩ (.mp o) (.int .i64 n) v:=by
 refine ⟨hv,?_⟩
 simp only [ho,hf,he]
 exact h
theorem Fb {es : List (D × D × Nat)} (hb : ∀ (i : Nat) e,es[i]? = some e -> e.2.2 = i) {i : Nat} (hi : i < es.length) : es.findIdx? (fun e=>(e.2.2 : Int) == (i : Int)) = some i:=by
 rw [List.findIdx?_eq_some_iff_getElem]
 refine ⟨hi,?_,fun j hj=>?_⟩
 ·have:=hb i _ (List.getElem?_eq_getElem hi)
  simp [this]
 ·have hj' : j < es.length:=by omega
  have:=hb j _ (List.getElem?_eq_getElem hj')
  simp [this];omega
theorem MpS.set {ps : List Nm} {es : List (D × D × Nat)} {clk i b : Nat} {k v : D} (h : MpS ps es clk) (he : es[i]? = some (k,v,b)) (n : Int) : MpS ps (es.set i (k,.int .i64 n,b)) clk:=by
 refine ⟨?_,fun x hx=>?_,fun j e hj=>?_,by rw [List.length_set];exact h.c⟩
 ·rw [<- h.k]
  apply List.ext_getElem?
  intro j
  simp only [List.getElem?_map]
  by_cases e : i = j
  ·subst e
   have : i < es.length:=by
    rcases Nat.lt_or_ge i es.length with h' | h'
    ·exact h'
    ·rw [List.getElem?_eq_none h'] at he;cases he
   rw [List.getElem?_set_self this,he];rfl
  ·rw [List.getElem?_set_ne e]
 ·rcases List.mem_or_eq_of_mem_set hx with h' | rfl
  ·exact h.v x h'
  ·exact ⟨n,rfl⟩
 ·by_cases e' : i = j
  ·subst e'
   have : i < es.length:=by
    rcases Nat.lt_or_ge i es.length with h' | h'
    ·exact h'
    ·rw [List.getElem?_eq_none h'] at he;cases he
   rw [List.getElem?_set_self this] at hj
   injection hj with hj;subst hj
   exact h.b i (k,v,b) he
  ·rw [List.getElem?_set_ne e'] at hj
   exact h.b j e hj
theorem MpS.push {ps : List Nm} {es : List (D × D × Nat)} {clk : Nat} (h : MpS ps es clk) (p : Nm) (n : Int) : MpS (ps ++ [p]) (es ++ [(c9 p,.int .i64 n,clk)]) (clk + 1):=by
 refine ⟨by simp [h.k],fun x hx=>?_,fun j e hj=>?_,by simp [h.c]⟩
 ·rcases List.mem_append.1 hx with h' | h'
  ·exact h.v x h'
  ·rw [List.mem_singleton] at h';subst h';exact ⟨n,rfl⟩
 ·rcases Nat.lt_or_ge j es.length with h' | h'
  ·rw [List.getElem?_append_left h'] at hj;exact h.b j e hj
  ·rw [List.getElem?_append_right h'] at hj
   have hj':=h.c
   rcases Nat.eq_zero_or_pos (j - es.length) with h0 | h0
   ·rw [h0] at hj
    simp only [List.getElem?_cons_zero,Option.some.injEq] at hj
    subst hj
    simp only;omega
   ·rw [List.getElem?_eq_none (by simp;omega)] at hj;cases hj
theorem G5 {p : Nm} {v : D} {b : Nat} : ∀ {ps : List Nm} {es : List (D × D × Nat)} (i : Nat),es.map (fun e=>e.1) = ps.map c9 -> p ∉ ps -> fnd kSS (c9 p) (es ++ [(c9 p,v,b)]) i = some (some (i + es.length,v,b))
 | [],[],i,_,_=>by simp [fnd,wD]
 | [],_ :: _,_,h,_=>by simp at h
 | _ :: _,[],_,h,_=>by simp at h
 | q :: ps,(k,v',b') :: es,i,h,hp=>by
  simp only [List.map_cons,List.cons.injEq] at h
  simp only [List.mem_cons,not_or] at hp
  have hk : k = c9 q:=h.1
  have e : (p == q) = false:=by simpa using hp.1
  simp only [List.cons_append,fnd,hk,wD,e]
  rw [G5 (i + 1) h.2 hp.2,List.length_cons,show i + 1 + es.length = i + (es.length + 1) by omega]
theorem DL {B : Hp} {o clk : Nat} {es : List (D × D × Nat)} {p : Nm} (ho : QR p) (hB : B[o]? = some (.map es clk)) {r : Option (Nat × D × Nat)} (hf : fnd kSS (c9 p) es 0 = some r) :
  sV B (true,[.str,.str]) (.int .i64 0) false (.mp o) (.agg [.str p.1,.str p.2]) = some (match r with | some (_,v,_)=>v | none=>.int .i64 0):=by
 have h1:=DX ho
 have hf : fnd (true,[.str,.str]) (.agg [.str p.1,.str p.2]) es 0 = some r:=hf
 have h1 : kok (true,[.str,.str]) (.agg [.str p.1,.str p.2]) = true:=h1
 unfold sV
 rw [if_pos h1]
 simp only [kS,hB,hf]
 cases r with
 | none=>rfl
 | some x=>rfl
theorem Ow {H B : Hp} (h : Ext H B) {o : Nat} (ho : H.length <= o) (y : Ob) : Ext H (B.set o y):=by
 obtain ⟨L,rfl⟩:=h
 exact ⟨L.set (o - H.length) y,by rw [List.set_append_right _ _ ho]⟩
def ddS (acc : List Nm) (x : Nm) : List Nm:=if acc.contains x then acc else acc ++ [x]
def ddN (l : List Nm) : List Nm:=l.foldl ddS []
theorem GV {l : List Nm} {i : Nat} {x : Nm} (h : l[i]? = some x) : ddN (l.take (i + 1)) = ddS (ddN (l.take i)) x:=by
 unfold ddN
 rw [List.take_add_one,h,List.foldl_append];rfl
theorem Hz : ∀ (l acc : List Nm),(l.foldl ddS acc).length <= acc.length + l.length
 | [],acc=>by simp
 | x :: l,acc=>by
  have:=Hz l (ddS acc x)
  have h2 : (ddS acc x).length <= acc.length + 1:=by unfold ddS;split <;> simp
  rw [List.foldl_cons,List.length_cons];omega
end GP
namespace GP
open Go
theorem tf (b : Bool) : b = true ∨ b = false:=by cases b <;> simp
theorem jP (x : D) (xs : List D) : aT (x :: xs) = x.cells ++ aT xs:=by simp [aT]
theorem DS (xs ys : List D) : aT (xs ++ ys) = aT xs ++ aT ys:=by simp [aT]
def qG (sz : Nat) (xs : List D) : Prop:=∀ x ∈ xs,∃ l,x = .agg l /\ l.length = sz
theorem qG.len {sz : Nat} {xs : List D} (h : qG sz xs) : ∀ x ∈ xs,x.cells.length = sz:=fun x hx=>by
 obtain ⟨l,rfl,hl⟩:=h x hx;exact hl
theorem qG.fit {sz : Nat} {xs : List D} (h : qG sz xs) : xs.all (fit sz) = true:=List.all_eq_true.2 fun x hx=>by
 obtain ⟨l,rfl,hl⟩:=h x hx;simp [GP.fit,D.okc,D.cells,hl]
theorem qG.flat {sz : Nat} {xs : List D} (h : qG sz xs) : (aT xs).length = xs.length * sz:=rI h.len
theorem qG.sub {sz : Nat} {xs ys : List D} (h : qG sz xs) (k : ∀ y ∈ ys,y ∈ xs) : qG sz ys:=fun y hy=>h y (k y hy)
theorem qG.set {sz : Nat} {xs : List D} (h : qG sz xs) {x : D} (hx : ∃ l,x = .agg l /\ l.length = sz) (i : Nat) : qG sz (xs.set i x):=fun y hy=>by
 rcases List.mem_or_eq_of_mem_set hy with h' | rfl
 ·exact h y h'
 ·exact hx
theorem tR {sz : Nat} : ∀ (xs : List D) (i : Nat),(∀ x ∈ xs,x.cells.length = sz) -> (aT xs).drop (i * sz) = aT (xs.drop i)
 | [],i,_=>by simp [aT]
 | x :: xs,0,_=>by simp
 | x :: xs,i + 1,h=>by
  rw [jP,List.drop_succ_cons,← tR xs i (fun y hy=>h y (by simp [hy])),show (i + 1) * sz = x.cells.length + i * sz by rw [h x (by simp)];rw [Nat.add_mul];omega,← List.drop_drop,List.drop_left]
theorem tW {sz : Nat} : ∀ (xs : List D) (i : Nat),(∀ x ∈ xs,x.cells.length = sz) -> (aT xs).take (i * sz) = aT (xs.take i)
 | [],i,_=>by simp [aT]
 | x :: xs,0,_=>by simp [aT]
 | x :: xs,i + 1,h=>by
  rw [jP,List.take_succ_cons,jP,← tW xs i (fun y hy=>h y (by simp [hy])),show (i + 1) * sz = x.cells.length + i * sz by rw [h x (by simp)];rw [Nat.add_mul];omega,List.take_length_add_append]
theorem uS {sz : Nat} : ∀ (xs : List D) (rest : List D),qG sz xs -> dJ true sz xs.length (aT xs ++ rest) = xs
 | [],_,_=>rfl
 | x :: xs,rest,h=>by
  obtain ⟨l,rfl,hl⟩:=h x (by simp)
  simp only [List.length_cons,dJ,if_true,jP,D.cells,List.append_assoc]
  rw [List.take_left' hl,List.drop_left' hl,uS xs rest (h.sub fun y hy=>by simp [hy])]
theorem I8 {sz : Nat} {xs rest : List D} {H : Hp} {o i off : Nat} {x : D} (ho : H[o]? = some (.row (aT xs ++ rest))) (h : qG sz xs) (hx : xs[i]? = some x) (hoff : off = i * sz) : ld true sz (eO H (.ptr o off)) = some x:=by
 subst hoff
 have hi : i < xs.length:=by
  rcases Nat.lt_or_ge i xs.length with h' | h'
  ·exact h'
  ·rw [List.getElem?_eq_none h'] at hx;cases hx
 obtain ⟨l,rfl,hl⟩:=h x (List.mem_of_getElem? hx)
 have hd : (aT xs ++ rest).drop (i * sz) = l ++ (aT (xs.drop (i + 1)) ++ rest):=by
  rw [List.drop_append_of_le_length (by rw [h.flat];exact Nat.mul_le_mul_right _ (by omega)),tR xs i h.len]
  have : xs.drop i = xs[i] :: xs.drop (i + 1):=List.drop_eq_getElem_cons hi
  rw [this,jP]
  have : xs[i] = .agg l:=by rw [List.getElem?_eq_getElem hi] at hx;injection hx
  rw [this];simp [D.cells]
 simp only [eO,ho,hd,ld,if_true]
 rw [if_pos (by simp [hl]),List.take_left' hl]
theorem Wb {sz : Nat} {xs rest : List D} {H : Hp} {t : Nat -> D} {T : Tk} {o i off : Nat} {x : D} {K : D -> S -> Prop} (ho : H[o]? = some (.row (aT xs ++ rest))) (h : qG sz xs) (hx : ∃ l,x = .agg l /\ l.length = sz) (hi : i < xs.length) (hoff : off = i * sz)
  (k : K .top ⟨t,H.set o (.row (aT (xs.set i x) ++ rest)),T⟩) : eA sz K ⟨t,H,T⟩ (.ptr o off) x:=by
 subst hoff
 obtain ⟨l,rfl,hl⟩:=hx
 have hle : i * sz + sz <= xs.length * sz:=by
  have:=Nat.mul_le_mul_right sz (show i + 1 <= xs.length from hi)
  rwa [Nat.add_mul,Nat.one_mul] at this
 simp only [eA,ho]
 refine ⟨rfl,hl,by simp [h.flat];omega,?_⟩
 have e : (aT xs ++ rest).take (i * sz) ++ D.cells (.agg l) ++ (aT xs ++ rest).drop (i * sz + sz) = aT (xs.set i (.agg l)) ++ rest:=by
  rw [List.take_append_of_le_length (by rw [h.flat];omega),List.drop_append_of_le_length (by rw [h.flat];omega),tW xs i h.len,
   show i * sz + sz = (i + 1) * sz by rw [Nat.add_mul];omega,tR xs (i + 1) h.len,List.set_eq_take_append_cons_drop,if_pos hi,DS,jP]
  simp
 rw [e];exact k
theorem C0 {ag : Bool} {sz o off n cap i : Nat} {k : IntKind} (h : i < n) : ia sz (.ms ag sz o off n cap) (.int k (i : Nat)) = some (.ptr o (off + i * sz)):=by
 have e : ((i : Nat) : Int).toNat = i:=by omega
 simp only [ia]
 rw [if_pos (by refine ⟨by omega,by omega,?_⟩;trivial),e]
theorem EM {ag : Bool} {sz o off n cap l h : Nat} (h1 : l <= h) (h2 : h <= n) (h3 : l < cap) : slc sz (some ((l : Nat) : Int)) (some ((h : Nat) : Int)) (.ms ag sz o off n cap) = some (.ms ag sz o (off + l * sz) (h - l) (cap - l)):=by
 have e1 : ((l : Nat) : Int).toNat = l:=by omega
 have e2 : (((h : Nat) : Int) - ((l : Nat) : Int)).toNat = h - l:=by omega
 simp only [slc]
 rw [if_pos (by refine ⟨by omega,by omega,by omega,by omega,?_⟩;trivial),e1,e2]
theorem OA {ag : Bool} {sz o off n cap h : Nat} (h2 : h <= n) (h3 : 0 < cap) : slc sz (some (0 : Int)) (some ((h : Nat) : Int)) (.ms ag sz o off n cap) = some (.ms ag sz o off h cap):=by
 have:=EM (ag:=ag) (sz:=sz) (o:=o) (off:=off) (n:=n) (cap:=cap) (l:=0) (h:=h) (by omega) h2 h3
 simpa using this
theorem Rb {sz : Nat} {z xs rest : List D} {H : Hp} {t : Nat -> D} {T : Tk} {o q n cap off : Nat} {ag : Bool} {K : D -> S -> Prop} (ho : H[o]? = some (.row (aT xs ++ rest))) (h : qG sz xs) (hz : z.length = sz) (hq : q + n = xs.length) (hoff : off = q * sz)
  (k : ∀ rest',K (.tup []) ⟨t,H.set o (.row (aT (xs.take q) ++ rest')),T⟩) : CG z K ⟨t,H,T⟩ (.ms ag sz o off n cap):=by
 subst hoff
 have hle : q * sz + n * sz = xs.length * sz:=by rw [<- hq,Nat.add_mul]
 simp only [CG,ho]
 refine ⟨hz.symm,by simp [h.flat];omega,?_⟩
 rw [List.take_append_of_le_length (by rw [h.flat];omega),tW xs q h.len,List.append_assoc]
 exact k _
end GP
namespace GP
open Go
variable {P : Program} [HasG P]
def XU (P : Program) [HasG P] (u : List FuncId) (l : Fs) (m : FsH) (e : FsE) : d8:=fun f a H T Q=>if u.contains f = true then Snd P f a H T Q else XE l m e f a H T Q
theorem XU.X {u : List FuncId} {l : Fs} {m : FsH} {e : FsE} (k : Ok P l) (k' : OkH P m) (k'' : OkE P e) : ∀ f args H T Q Q',(∀ r H T,Q r H T -> Q' r H T) -> XU P u l m e f args H T Q -> Snd P f args H T Q':=by
 intro f args H T Q Q' hQ h
 unfold XU at h
 split at h
 ·exact Snd.mono _ _ _ _ _ _ hQ h
 ·exact XE.X k k' k'' f args H T Q Q' hQ h
theorem IF (u : List FuncId) (l : Fs) (m : FsH) (e : FsE) : uL (XU P u l m e):=by
 intro f args H T Q Q' hQ h
 unfold XU at h ⊢
 split at h
 ·rename_i c;rw [if_pos c];exact Snd.mono _ _ _ _ _ _ hQ h
 ·rename_i c;rw [if_neg c];exact jV l m e _ _ _ _ _ _ hQ h
theorem oV (u : List FuncId) (l : Fs) (m : FsH) (e : FsE) (f : FuncId) (args : List D) (H : Hp) (T : Tk) (Q : dM) : XU P u l m e f args H T Q = if u.contains f = true then Snd P f args H T Q else orX Q H T (kF l f (D.eraseL args)) (gC m H f (D.eraseL args)) (m7 e H f (D.eraseL args)):=by
 unfold XU
 rw [Pd]
theorem L4 {u : List FuncId} {l : Fs} {m : FsH} {e : FsE} (hm : cQ m) (args : List D) (K : D -> S -> Prop) (s : S) (f : FuncId) (first cap : List D) :
  cT (XU P u l m e) args K s (.fn f first cap) = if (u.contains f || inE e f) = true then N2 (XU P u l m e) args K s (.fn f first cap) else orK K s (kF l f (D.eraseL (first ++ args ++ cap))) (gC m s.H f (D.eraseL (first ++ args ++ cap))):=by
 cases hu : u.contains f with
 | true=>rfl
 | false =>
  simp only [Bool.false_or]
  have hx : ∀ a H T Q,XU P u l m e f a H T Q = XE l m e f a H T Q:=by
   intro a H T Q;unfold XU;rw [hu];rfl
  cases he : inE e f with
  | true=>rfl
  | false =>
   rw [if_neg (by simp)]
   have:=cH (l:=l) (e:=e) hm args K s f first cap
   rw [he,if_neg (by simp)] at this
   rw [<- this]
   simp only [cT,eq_iff_iff]
   unfold Qg
   simp only [hx]
def PY (K : D -> S -> Prop) (t : Nat -> D) : dM:=fun r H T=>K r ⟨t,H,T⟩
theorem NI (X : d8) (args : List D) (K : D -> S -> Prop) (s : S) (f : FuncId) (first cap : List D) : wM X args K s (.fn f first cap) = X f (first ++ args ++ cap) s.H s.T (PY K s.t):=id rfl
theorem LS (K : D -> S -> Prop) (t : Nat -> D) (r : D) (H : Hp) (T : Tk) : PY K t r H T = K r ⟨t,H,T⟩:=id rfl
def orL (Q : dM) (H : Hp) (T : Tk) : Option D -> Prop
 | some r=>Q r H T
 | none=>False
theorem Tn (l : Fs) (f : FuncId) (args : List D) (H : Hp) (T : Tk) (Q : dM) : XL l f args H T Q = orL Q H T (kF l f (D.eraseL args)):=by
 unfold XL orL
 cases kF l f (D.eraseL args) <;> rfl
theorem U2 (Q : dM) (H : Hp) (T : Tk) (r : D) : orL Q H T (some r) = Q r H T:=id rfl
attribute [go_sem] NI LS Tn U2 Pd Ws A2m Sx Wx A2F HF O9 NF Kk Hl TS Sa
theorem Ot {X : d8} (hX : ∀ f args H T Q Q',(∀ r H T,Q r H T -> Q' r H T) -> X f args H T Q -> Snd P f args H T Q') {f : FuncId} {n : Nat} {rs : List (Sum Nat (Nat × Bool × Nat))} {cc : C} (hf : Fn P f n rs cc) {φ : Hp -> List D -> Option (D × Hp)}
  (h : ∀ H args r H1,φ H args = some (r,H1) -> args.length <= n /\ r.cl H1.length 0 = true /\ mV H H1 0 /\ ∀ T,W X cc (mW rs (dB r H1 T)) ⟨bF args,H,T⟩) : bK P f φ:=by
 intro H args r H1 hr args' he T Q hQ
 obtain ⟨h1,h2,h4,h3⟩:=h H args r H1 hr
 have hS : Snd P f args H T (dB r H1 T):=oS hf h1 (fE hX (fun _ _ h=>h) (h3 T))
 intro c w vs kg k1 k2 k3
 have k3' : Reps c args vs:=by rw [<- he];exact k3.erase
 have hcl:=D.cl_mono (Nat.le_refl H1.length) (Nat.zero_le T.length) r h2
 have hC : mV H H1 T.length:=⟨h4.1,fun o x cs a b=>(h4.2 o x cs a b).imp id (D.clL_mono (Nat.le_refl _) (Nat.zero_le _) cs)⟩
 rcases hS c w vs kg k1 k2 k3' with ⟨g1,g2⟩ | ⟨v,w',g1,g2⟩
 ·exact .inl ⟨g1,g2.mono fun e w' k=>bJ.forgetE k1 k2 hcl hC hQ k⟩
 ·exact .inr ⟨v,w',g1,bJ.forgetE k1 k2 hcl hC hQ g2⟩
theorem P6 {X : d8} (hX : ∀ f args H T Q Q',(∀ r H T,Q r H T -> Q' r H T) -> X f args H T Q -> Snd P f args H T Q') {f : FuncId} {n : Nat} {rs : List (Sum Nat (Nat × Bool × Nat))} {cc : C} (hf : Fn P f n rs cc) {φ : List D -> Option D}
  (h : ∀ args r,φ args = some r -> args.length <= n /\ r.cl 0 0 = true /\ ∀ H T,W X cc (mW rs (dB r H T)) ⟨bF args,H,T⟩) : aO P f φ:=by
 intro args r hr args' he H T Q hQ
 refine Ot hX hf (φ:=fun H a=>(φ a).map fun r=>(r,H)) (fun H a r H1 hr=>?_) H args r H (by simp [hr]) args' he T Q hQ
 cases ha : φ a with
 | none=>rw [ha] at hr;cases hr
 | some r' =>
  rw [ha] at hr;simp only [Option.map_some,Option.some.injEq,Prod.mk.injEq] at hr
  obtain ⟨rfl,rfl⟩:=hr
  obtain ⟨h1,h2,h3⟩:=h a r' ha
  exact ⟨h1,D.cl_mono (Nat.zero_le _) (Nat.le_refl _) r' h2,mV.refl _ _,fun T=>h3 H T⟩
theorem Ext.set {H B : Hp} (h : Ext H B) {o : Nat} (ho : H.length <= o) (x : Ob) : Ext H (B.set o x):=by
 obtain ⟨L,rfl⟩:=h
 exact ⟨L.set (o - H.length) x,by rw [List.set_append_right _ _ ho]⟩
theorem mM {r r0 : D} {H B : Hp} {T U : Tk} (hr : Crs r r0) (h : Ext H B) (k : bQ T U) : dB r0 H T r B U:=by
 obtain ⟨L,rfl⟩:=h;obtain ⟨M,rfl⟩:=k
 exact ⟨r,_,.refl _ _,hr,⟨H,L,rfl,Az.refl H⟩,M,rfl⟩
theorem Gj {r r0 : D} {H B : Hp} {T U : Tk} (o : Nat) (cs : List D) (ho : B[o]? = some (.row cs)) (hl : H.length <= o) (hr : Crs (r.fz o cs) r0) (h : Ext H B) (k : bQ T U) : dB r0 H T r B U:=by
 obtain ⟨L,e⟩:=h.set hl .dead;obtain ⟨M,rfl⟩:=k
 exact ⟨_,_,.step o cs ho (.refl _ _),hr,⟨H,L,e,Az.refl H⟩,M,rfl⟩
@[go_sem] theorem A1U (off n : Nat) (cs : List D) : fld false off n (.agg cs) = cs[off]?:=id rfl
@[go_sem] theorem A14 (off n : Nat) (cs : List D) : fld true off n (.agg cs) = if off + n <= cs.length then some (.agg ((cs.take (off + n)).drop off)) else none:=id rfl
end GP
namespace GP
open Go
mutual
def D.ren (σ θ : Nat -> Nat) : D -> D
 | .sl t xs=>.sl (t.map θ) (D.renL σ θ xs)
 | .el cs=>.el (D.renL σ θ cs)
 | .agg cs=>.agg (D.renL σ θ cs)
 | .tup cs=>.tup (D.renL σ θ cs)
 | .fn f a b=>.fn f (D.renL σ θ a) (D.renL σ θ b)
 | .ifc t d=>.ifc t (D.ren σ θ d)
 | .ptr o off=>.ptr (σ o) off
 | .mp o=>.mp (σ o)
 | .ms ag z o off n cap=>.ms ag z (σ o) off n cap
 | d=>d
def D.renL (σ θ : Nat -> Nat) : List D -> List D
 | []=>[]
 | d :: ds=>D.ren σ θ d :: D.renL σ θ ds
end
section
variable {σ θ : Nat -> Nat}
end
def Vq (σ θ : Nat -> Nat) (x y : Ob) : Prop :=
 (∃ cs cs',x = .row cs /\ y = .row cs' /\ cs'.length = cs.length /\ (∀ d ∈ cs,d.one = true) /\ ∀ i (h : i < cs.length) (h' : i < cs'.length),Crs cs'[i] ((cs[i]).ren σ θ)) ∨ (x = .dead) ∨ (x = .hole /\ y = .hole)
structure RenTo (H : Hp) (T : Tk) (r2 : D) (H2 : Hp) (T2 : Tk) (r0 : D) (H1 : Hp) (T1 : Tk) (σ θ : Nat -> Nat) : Prop where
 σ0 : ∀ o,o < H.length -> σ o = o
 θ0 : ∀ τ,τ < T.length -> θ τ = τ
 res : Crs r2 (r0.ren σ θ)
 ob : ∀ (o : Nat) x,H1[o]? = some x -> ∃ y,H2[σ o]? = some y /\ ((y = x /\ H[o]? = some x) ∨ Vq σ θ x y)
 σi : ∀ o o',o < H1.length -> o' < H1.length -> σ o = σ o' -> o = o'
 θi : ∀ τ τ',τ < T1.length -> τ' < T1.length -> θ τ = θ τ' -> τ = τ'
 tok : ∀ τ,τ < T1.length -> T2[θ τ]? = T1[τ]?
 hl : H.length <= H1.length
 tl : T.length <= T1.length
theorem rB {α : Type} {l : List α} {i : Nat} {x : α} (h : l[i]? = some x) : i < l.length:=by
 rcases Nat.lt_or_ge i l.length with h' | h'
 ·exact h'
 ·rw [List.getElem?_eq_none h'] at h;cases h
section
variable {P : Program}
end
variable {P : Program} [HasG P]
abbrev FsG:=List (FuncId × (Hp -> Tk -> List D -> Option (D × Hp × Tk)))
def sT : FsG -> Hp -> Tk -> FuncId -> List D -> Option (D × Hp × Tk)
 | [],_,_,_,_=>none
 | (g,φ) :: l,H,T,f,a=>if f = g then φ H T a else sT l H T f a
def inG : FsG -> FuncId -> Bool
 | [],_=>false
 | (g,_) :: l,f=>decide (f = g) || inG l f
@[go_sem] theorem SJ (H : Hp) (T : Tk) (f : FuncId) (a : List D) : sT [] H T f a = none:=id rfl
@[go_sem] theorem Rn (g : FuncId) (φ : Hp -> Tk -> List D -> Option (D × Hp × Tk)) (l : FsG) (H : Hp) (T : Tk) (f : FuncId) (a : List D) : sT ((g,φ) :: l) H T f a = if f = g then φ H T a else sT l H T f a:=id rfl
@[go_sem] theorem Yb (f : FuncId) : inG [] f = false:=id rfl
@[go_sem] theorem SX (g : FuncId) (φ : Hp -> Tk -> List D -> Option (D × Hp × Tk)) (l : FsG) (f : FuncId) : inG ((g,φ) :: l) f = (decide (f = g) || inG l f):=id rfl
def ME (P : Program) [HasG P] (f : FuncId) (φ : Hp -> Tk -> List D -> Option (D × Hp × Tk)) : Prop:=∀ H T args r H' T',φ H T args = some (r,H',T') -> ∀ args',D.eraseL args' = args -> ∀ (Q : dM),Q r H' T' -> Snd P f args' H T Q
def OkG (P : Program) [HasG P] (m : FsG) : Prop:=∀ H T f args r H' T',sT m H T f args = some (r,H',T') -> ∀ args',D.eraseL args' = args -> ∀ (Q : dM),Q r H' T' -> Snd P f args' H T Q
theorem OkG.nil : OkG P []:=fun _ _ _ _ _ _ _ h=>by simp [sT] at h
theorem OkG.cons {f : FuncId} {φ : Hp -> Tk -> List D -> Option (D × Hp × Tk)} {m : FsG} (h : ME P f φ) (k : OkG P m) : OkG P ((f,φ) :: m):=by
 intro H T g args r H' T' hr
 simp only [sT] at hr
 split at hr
 ·rename_i e;subst e;exact h H T args r H' T' hr
 ·exact k H T g args r H' T' hr
def inU : List FuncId -> FuncId -> Bool
 | [],_=>false
 | g :: l,f=>decide (f = g) || inU l f
@[go_sem] theorem YN (f : FuncId) : inU [] f = false:=id rfl
@[go_sem] theorem WA (g : FuncId) (l : List FuncId) (f : FuncId) : inU (g :: l) f = (decide (f = g) || inU l f):=id rfl
def XG (P : Program) [HasG P] (u : List FuncId) (l : Fs) (m : FsH) (e : FsE) (g : FsG) : d8:=fun f a H T Q =>
 if inU u f = true then Snd P f a H T Q else match kF l f (D.eraseL a) with
 | some r=>Q r H T
 | none=>match gC m H f (D.eraseL a) with
  | some r=>Q r H T
  | none=>match m7 e H f (D.eraseL a) with
   | some (r,H')=>Q r H' T
   | none=>match sT g H T f (D.eraseL a) with
    | some (r,H',T')=>Q r H' T'
    | none=>False
theorem XG.X {u : List FuncId} {l : Fs} {m : FsH} {e : FsE} {g : FsG} (k : Ok P l) (k' : OkH P m) (k'' : OkE P e) (k3 : OkG P g) : ∀ f args H T Q Q',(∀ r H T,Q r H T -> Q' r H T) -> XG P u l m e g f args H T Q -> Snd P f args H T Q':=by
 intro f args H T Q Q' hQ h
 unfold XG at h
 split at h
 ·exact Snd.mono _ _ _ _ _ _ hQ h
 ·split at h
  ·rename_i r hr
   exact k f _ r hr args rfl H T Q' (hQ _ _ _ h)
  ·split at h
   ·rename_i r hr
    exact k' H f _ r hr args rfl T Q' (hQ _ _ _ h)
   ·split at h
    ·rename_i r H' hr
     exact k'' H f _ r H' hr args rfl T Q' (hQ _ _ _ h)
    ·split at h
     ·rename_i r H' T' hr
      exact k3 H T f _ r H' T' hr args rfl Q' (hQ _ _ _ h)
     ·exact h.elim
def orG (Q : dM) : Option (D × Hp × Tk) -> Prop
 | some (r,H',T')=>Q r H' T'
 | none=>False
def orY (Q : dM) (H : Hp) (T : Tk) : Option D -> Option D -> Option (D × Hp) -> Option (D × Hp × Tk) -> Prop
 | some r,_,_,_=>Q r H T
 | none,some r,_,_=>Q r H T
 | none,none,some (r,H'),_=>Q r H' T
 | none,none,none,x=>orG Q x
@[go_sem] theorem A19 (u : List FuncId) (l : Fs) (m : FsH) (e : FsE) (g : FsG) (f : FuncId) (args : List D) (H : Hp) (T : Tk) (Q : dM) : XG P u l m e g f args H T Q = if inU u f = true then Snd P f args H T Q else orY Q H T (kF l f (D.eraseL args)) (gC m H f (D.eraseL args)) (m7 e H f (D.eraseL args)) (sT g H T f (D.eraseL args)):=by
 unfold XG
 congr 1
 cases kF l f (D.eraseL args) with
 | some r=>rfl
 | none =>
  cases gC m H f (D.eraseL args) with
  | some r=>rfl
  | none =>
   cases m7 e H f (D.eraseL args) with
   | some x=>rfl
   | none =>
    cases sT g H T f (D.eraseL args) with
    | some x=>rfl
    | none=>rfl
@[go_sem] theorem A1M (Q : dM) (H : Hp) (T : Tk) (r : D) (x : Option D) (y : Option (D × Hp)) (z : Option (D × Hp × Tk)) : orY Q H T (some r) x y z = Q r H T:=id rfl
@[go_sem] theorem A2a (Q : dM) (H : Hp) (T : Tk) (r : D) (y : Option (D × Hp)) (z : Option (D × Hp × Tk)) : orY Q H T none (some r) y z = Q r H T:=id rfl
@[go_sem] theorem A1J (Q : dM) (H : Hp) (T : Tk) (r : D) (H' : Hp) (z : Option (D × Hp × Tk)) : orY Q H T none none (some (r,H')) z = Q r H' T:=id rfl
@[go_sem] theorem A1Z (Q : dM) (H : Hp) (T : Tk) (z : Option (D × Hp × Tk)) : orY Q H T none none none z = orG Q z:=id rfl
@[go_sem] theorem A1T (Q : dM) (r : D) (H' : Hp) (T' : Tk) : orG Q (some (r,H',T')) = Q r H' T':=id rfl
end GP
namespace GP
open Go
variable {X : d8} {Q : Ex -> S -> Prop}
def C.hd : Nat -> C -> C
 | 0,_=>.skip
 | n + 1,.seq a b=>.seq a (b.hd n)
 | _ + 1,c=>c
def C.tl : Nat -> C -> C
 | 0,c=>c
 | n + 1,.seq _ b=>b.tl n
 | _ + 1,_=>.skip
theorem gS : m9 (W X .skip Q) Q = Q:=by
 funext e s
 cases e <;> simp [m9,W]
theorem Du : ∀ (n : Nat) (c : C) (Q : Ex -> S -> Prop) (s : S),W X c Q s = W X (c.hd n) (m9 (W X (c.tl n) Q) Q) s
 | 0,c,Q,s=>by simp only [C.hd,C.tl,W,m9]
 | n + 1,.seq a b,Q,s=>by
  simp only [C.hd,C.tl,W]
  congr 1
  funext e s'
  cases e with
  | normal=>simp only [m9];exact Du n b Q s'
  | exit i=>rfl
  | ret=>rfl
 | n + 1,.skip,Q,s=>by simp only [C.hd,C.tl,gS]
 | n + 1,.reg is,Q,s=>by simp only [C.hd,C.tl,gS]
 | n + 1,.draw na is,Q,s=>by simp only [C.hd,C.tl,gS]
 | n + 1,.cond c a b,Q,s=>by simp only [C.hd,C.tl,gS]
 | n + 1,.block i c,Q,s=>by simp only [C.hd,C.tl,gS]
 | n + 1,.loop c,Q,s=>by simp only [C.hd,C.tl,gS]
 | n + 1,.exit i,Q,s=>by simp only [C.hd,C.tl,gS]
 | n + 1,.ret,Q,s=>by simp only [C.hd,C.tl,gS]
 | n + 1,.stop,Q,s=>by simp only [C.hd,C.tl,gS]
@[go_sem] theorem A2c (c : C) : C.hd 0 c = .skip:=id rfl
@[go_sem] theorem A2d (n : Nat) (a b : C) : C.hd (n + 1) (.seq a b) = .seq a (b.hd n):=id rfl
@[go_sem] theorem A2h (c : C) : C.tl 0 c = c:=id rfl
@[go_sem] theorem A2l (n : Nat) (a b : C) : C.tl (n + 1) (.seq a b) = b.tl n:=id rfl
end GP
namespace GP
open Go
set_option maxRecDepth 100000
variable {P : Program} [HasG P]
open Rd O
def twC (sz : Nat) (z : List D) : C :=
 (.seq (.reg [⟨(some 4),none,.mv (k (.bool false))⟩])
 (.seq (.reg [⟨(some 8),none,.mkmap⟩,⟨(some 5),none,.mv (t 8)⟩])
 (.seq (.seq (.reg [⟨(some 9),none,.mv (t 0)⟩,⟨(some 10),none,.len (t 9)⟩,⟨(some 11),none,.mv (k (.int .i64 0))⟩])
 (.block 0
 (.loop
 (.seq (.reg [⟨(some 12),none,.bin .lss (t 11) (t 10)⟩])
 (.seq (.cond (t 12)
 .skip
 (.exit 0))
 (.seq (.block 1
 (.seq (.reg [⟨(some 13),none,.iaddr sz (t 9) (t 11)⟩,⟨(some 14),none,.load true sz (t 13)⟩,⟨(some 7),none,.alloc z⟩,⟨none,none,.store sz (t 7) (t 14)⟩])
 (.draw 0 [(⟨(some 15),none,.mv (t 5)⟩,[]),(⟨(some 16),none,.mv (t 1)⟩,[]),(⟨(some 17),none,.load true sz (t 7)⟩,[]),(⟨(some 18),none,.pcall (t 16) [(t 17)]⟩,[]),(⟨(some 19),none,.mget (true,[.str,.str]) (.int .i64 0) false (t 15) (t 18)⟩,[]),(⟨(some 20),none,.bin .add (t 19) (k (.int .i64 1))⟩,[]),(⟨(some 21),none,.ment (true,[.str,.str]) (.int .i64 0) (t 15) (t 18)⟩,[⟨(some 19),none,.mget (true,[.str,.str]) (.int .i64 0) false (t 15) (t 18)⟩]),(⟨(some 22),none,.ext 1 (t 21)⟩,[]),(⟨none,none,.mst (t 15) (t 22) (t 20)⟩,[])])))
 (.reg [⟨(some 23),none,.bin .add (t 11) (k (.int .i64 1))⟩,⟨(some 11),none,.mv (t 23)⟩])))))))
 (.seq (.reg [⟨(some 24),none,.mv (t 5)⟩,⟨(some 25),none,.mlen (t 24)⟩,⟨(some 26),none,.mv (t 0)⟩,⟨(some 27),none,.len (t 26)⟩,⟨(some 28),none,.bin .neq (t 25) (t 27)⟩,⟨(some 4),none,.mv (t 28)⟩])
 .ret))))
def twB (l : List Nm) : Bool:=(((ddN l).length : Int) != (l.length : Int))
structure isElN (sz : Nat) (φn : List D -> Option D) (nm : D -> Nm) (x : D) : Prop where
 n : φn [x] = some (c9 (nm x))
 o : QR (nm x)
 e : x.erase = x
 c1 : x.cells.length = sz
 c2 : x.cells.take sz = x.cells
 c3 : D.agg x.cells = x
 c4 : x.okc = true
open Classical in
noncomputable def CM (sz : Nat) (g : FuncId) (φn : List D -> Option D) (nm : D -> Nm) : List D -> Option D
 | [l,.fn f [] []]=>if f = g /\ ∃ m xs,l = aA m xs /\ (∀ x ∈ xs,isElN sz φn nm x) /\ xs.length <= 2 ^ 40 then some (.bool (twB ((elems l).map nm))) else none
 | _=>none
set_option maxHeartbeats 8000000 in
theorem R7 {N g : FuncId} {sz : Nat} {z : List D} {φn : List D -> Option D} {nm : D -> Nm} (hz : z.length = sz) (hg : aO P g φn) (hf : Fn P N 29 [.inl 4] (twC sz z)) : aO P N (CM sz g φn nm):=by
 have hX:=aI [(g,φn)]
 refine aG (l:=[(g,φn)]) (.cons hg .nil) hf fun args r h=>?_
 unfold CM at h
 split at h
 ·rename_i l f
  split at h
  ·rename_i hc
   injection h with h;subst h
   obtain ⟨rfl,m,xs,rfl,hxs,hlen⟩:=hc
   rw [aQ]
   refine ⟨by simp,by simp [D.cl],fun H T=>?_⟩
   simp +contextual only [twC,go_sem]
   refine jG xs (fun i s=>s.t 0 = aA m xs /\ s.t 1 = .fn f [] [] /\ s.t 5 = .mp H.length /\ s.t 9 = aA m xs /\ s.t 10 = .int .i64 (xs.length : Int) /\ s.t 11 = .int .i64 (i : Int) /\ (∃ es clk,s.H[H.length]? = some (.map es clk) /\ MpS (ddN ((xs.take i).map nm)) es clk) /\ Ext H s.H /\ s.T = T) hX ⟨by simp [upd,bF],by simp [upd,bF],by simp [upd],by simp [upd,bF],by simp [upd],by simp [upd],⟨[],0,by simp,MpS.nil⟩,⟨_,rfl⟩,rfl⟩ ?_ ?_
   ·rintro i x ⟨t,B,U⟩ hx hm hi ⟨t0,t1,t5,t9,t10,t11,⟨es,clk,hB,hM⟩,hE,rfl⟩
    simp only at t0 t1 t5 t9 t10 t11 hB hE
    have d1 : decide ((i : Int) < xs.length) = true:=by simpa using hi
    obtain ⟨pn,on,ex,c1,c2,c3,c4⟩:=hxs x hm
    have hxn : (xs.map nm)[i]? = some (nm x):=by rw [List.getElem?_map,hx];rfl
    have nx:=GV hxn
    rw [<- List.map_take,← List.map_take] at nx
    rw [nx]
    clear nx hxn
    obtain ⟨ps,hps⟩ : ∃ z,ddN ((xs.take i).map nm) = z:=⟨_,rfl⟩
    rw [hps] at hM ⊢
    obtain ⟨p,hp⟩ : ∃ z,nm x = z:=⟨_,rfl⟩
    rw [hp] at pn on ⊢
    clear hps hp
    have hzd : List.drop sz z = []:=List.drop_eq_nil_of_le (by omega)
    have hle : sz <= z.length:=by omega
    have pn' : φn [x] = some (.agg [.str p.1,.str p.2]):=pn
    have hpu0 : pu (D.int IntKind.i64 0) = true:=rfl
    have hlt : H.length < B.length:=by
     rcases Nat.lt_or_ge H.length B.length with h' | h'
     ·exact h'
     ·rw [List.getElem?_eq_none h'] at hB;cases hB
    have hBL : (B ++ [Ob.row x.cells])[H.length]? = some (.map es clk):=by rw [List.getElem?_append_left hlt];exact hB
    have w1:=y7 i (by omega)
    have hE2 : ∀ y,Ext H ((B ++ [Ob.row x.cells]).set H.length y):=fun y=>Ow (hE.app _) (Nat.le_refl _) y
    have hset : ∀ y y',((B ++ [Ob.row x.cells]).set H.length y).set H.length y' = (B ++ [Ob.row x.cells]).set H.length y':=fun y y'=>by simp
    have hget : ∀ y,((B ++ [Ob.row x.cells]).set H.length y)[H.length]? = some y:=fun y=>List.getElem?_set_self (by rw [List.length_append];omega)
    by_cases hp : p ∈ ps
    ·obtain ⟨j,v,b,hf,hj⟩:=J2 0 hM.k hp
     obtain ⟨n,hv⟩:=hM.v _ (List.mem_of_getElem? hj)
     simp only at hv
     subst hv
     have hmg:=DL on hBL hf
     simp only at hmg
     have hbj:=hM.b j _ hj
     simp only at hbj
     subst hbj
     have hjl : b < es.length:=by
      rcases Nat.lt_or_ge b es.length with h' | h'
      ·exact h'
      ·rw [List.getElem?_eq_none h'] at hj;cases hj
     have hdd : ddS ps p = ps:=by
      unfold ddS
      rw [if_pos (by simpa using hp)]
     rw [hdd]
     simp +contextual only [t0,t1,t5,t9,t10,t11,d1,hx,ex,c1,c2,c3,c4,hzd,hle,List.take_zero,List.nil_append,List.append_nil,pn',eq_self,hpu0,hmg,go_sem]
     refine Fk (DX on) rfl hBL hf ?_
     simp only [Nat.zero_add]
     have hj' : es[b]? = some (D.agg [.str p.1,.str p.2],.int .i64 n,b):=hj
     rw [Q7 hj',Q7 hBL]
     simp +contextual only [hpu0,hmg,go_sem]
     refine IU rfl hBL (Fb hM.b hjl) hj ?_
     simp +contextual only [t0,t1,t5,t9,t10,t11,w1,go_sem]
     exact ⟨⟨_,_,hget _,hM.set hj _⟩,hE2 _⟩
    ·have hf:=Mq 0 hM.k hp
     have hmg:=DL on hBL hf
     simp only at hmg
     have hdd : ddS ps p = ps ++ [p]:=by
      unfold ddS
      rw [if_neg (by simpa using hp)]
     rw [hdd]
     have hM2:=hM.push p 0
     have hf2:=G5 (p:=p) (v:=.int .i64 0) (b:=clk) 0 hM.k hp
     have hmg2:=DL on (hget (.map (es ++ [(c9 p,.int .i64 0,clk)]) (clk + 1))) hf2
     simp only at hmg2
     have hcl:=hM.c
     have hidx:=Fb hM2.b (i:=clk) (by simp;omega)
     have hlast : (es ++ [(c9 p,D.int .i64 0,clk)])[clk]? = some (c9 p,.int .i64 0,clk):=by
      rw [List.getElem?_append_right (by omega),hcl];simp
     simp +contextual only [t0,t1,t5,t9,t10,t11,d1,hx,ex,c1,c2,c3,c4,hzd,hle,List.take_zero,List.nil_append,List.append_nil,pn',eq_self,hpu0,hmg,go_sem]
     refine Fk (DX on) rfl hBL hf ?_
     simp only
     obtain ⟨B2,hB2⟩ : ∃ z,(B ++ [Ob.row x.cells]).set H.length (.map (es ++ [(D.agg [.str p.1,.str p.2],.int .i64 0,clk)]) (clk + 1)) = z:=⟨_,rfl⟩
     have g2:=hget (.map (es ++ [(c9 p,.int .i64 0,clk)]) (clk + 1))
     have hB2' : (B ++ [Ob.row x.cells]).set H.length (.map (es ++ [(c9 p,.int .i64 0,clk)]) (clk + 1)) = B2:=hB2
     rw [hB2'] at hmg2 g2
     have e2 : ∀ y,Ext H (B2.set H.length y):=fun y=>by rw [<- hB2,hset];exact hE2 y
     have s2 : ∀ y,(B2.set H.length y)[H.length]? = some y:=fun y=>by rw [<- hB2,hset];exact hget y
     rw [hB2]
     simp +contextual only [hpu0,hmg2,go_sem]
     refine IU rfl g2 hidx hlast ?_
     simp +contextual only [t0,t1,t5,t9,t10,t11,w1,go_sem]
     exact ⟨⟨_,_,s2 _,hM2.set hlast _⟩,e2 _⟩
   ·rintro ⟨t,B,U⟩ ⟨t0,t1,t5,t9,t10,t11,⟨es,clk,hB,hM⟩,hE,rfl⟩
    simp only at t0 t1 t5 t9 t10 t11 hB hE
    have d1 : decide ((xs.length : Int) < xs.length) = false:=by simp
    rw [List.take_length] at hM
    have hl : es.length = (ddN (xs.map nm)).length:=by
     have:=congrArg List.length hM.k
     simpa using this
    have he : kS B (.mp H.length) = some es:=by simp only [kS,hB]
    unfold twB
    rw [<- hl,List.length_map]
    simp +contextual only [t0,t1,t5,t9,t10,t11,d1,he,Option.map_some,b8 hE (bQ.refl _),go_sem]
  ·cases h
 ·cases h
end GP
namespace GP
open Go Go.Proofs
open Rd O
set_option maxRecDepth 100000
theorem Rj : Fn Tryz.prog 187 29 [.inl 4] (twC 4 [(.str []),(.str []),(.int .i64 0),(.bool false)]):=aJ Tryz.func187 Tryz.ntmps187 Hq0
theorem QT : Fn Tryz.prog 189 29 [.inl 4] (twC 13 [(.str []),(.str []),(.str []),(.bool false),(.str []),(.int .i64 0),(.int .i64 0),(.str []),.nils,(.str []),(.str []),.nils,.nils]):=aJ Tryz.func189 Tryz.ntmps189 Hq0
theorem QM : Fn Tryz.prog 191 29 [.inl 4] (twC 13 [(.bool false),(.str []),(.bool false),(.str []),(.int .i64 0),(.int .i64 0),(.str []),.nils,(.str []),(.str []),.nils,.nils,.nils]):=aJ Tryz.func191 Tryz.ntmps191 Hq0
end GP
namespace GP
open Go Go.Proofs
set_option maxRecDepth 100000
theorem Vu (a : Int) : IntKind.i64.wrap a = if a % 2 ^ 64 ≥ 2 ^ 63 then a % 2 ^ 64 - 2 ^ 64 else a % 2 ^ 64:=by simp [IntKind.wrap,IntKind.bits,IntKind.signed]
theorem iS {a : Int} (h1 : -(2 ^ 63) <= a) (h2 : a < 2 ^ 63) : IntKind.i64.wrap a = a:=by rw [Vu];split <;> omega
theorem bT (n : Nat) (h : n < 2 ^ 61) : IntKind.i64.wrap ((n : Int) + 1) = ((n + 1 : Nat) : Int):=by rw [iS (by omega) (by omega)];rfl
theorem Tw (l : List UInt8) (k : IntKind) (n : Int) : ixs (.str l) (.int k n) = if 0 <= n then (l[n.toNat]?).map fun b=>.int .u8 b.toNat else none:=rfl
theorem dU {l : List UInt8} {i : Nat} {b : UInt8} (h : l[i]? = some b) (k : IntKind) : ixs (.str l) (.int k (i : Int)) = some (.int .u8 b.toNat):=by
 rw [Tw,if_pos (by omega)];simp [h]
def fL (n : Int) : Bool:=(decide (97 <= n) && decide (n <= 122)) || n == 95
def aB (n : Int) : Bool:=decide (48 <= n) && decide (n <= 57)
def b9 (n : Int) : Bool:=fL n || aB n
def dY (n : Int) : Bool:=decide (32 <= n) && decide (n <= 126)
def cZ (n : Int) : Bool:=n != 10
def φb (p : Int -> Bool) : List D -> Option D
 | [.int .u8 n]=>some (.bool (p n))
 | _=>none
theorem Mt : aO Tryz.prog 147 (φb fL):=by
 refine aG (l:=[]) .nil UM fun args r h=>?_
 unfold φb at h
 split at h
 ·rename_i n
  injection h with h;subst h
  refine ⟨by simp,by simp [D.cl],fun H T=>?_⟩
  unfold fL
  rcases tf (decide (97 <= n)) with h1 | h1
  ·rcases tf (decide (n <= 122)) with h2 | h2
   ·simp +contextual only [PP,h1,h2,go_sem]
   ·simp +contextual only [PP,h1,h2,go_sem]
  ·simp +contextual only [PP,h1,go_sem]
 ·cases h
theorem Ir : aO Tryz.prog 148 (φb aB):=by
 refine aG (l:=[]) .nil Sg fun args r h=>?_
 unfold φb at h
 split at h
 ·rename_i n
  injection h with h;subst h
  refine ⟨by simp,by simp [D.cl],fun H T=>?_⟩
  unfold aB
  rcases tf (decide (48 <= n)) with h1 | h1 <;> simp +contextual only [Xk,h1,go_sem]
 ·cases h
theorem XK : aO Tryz.prog 200 (φb dY):=by
 refine aG (l:=[]) .nil Ui fun args r h=>?_
 unfold φb at h
 split at h
 ·rename_i n
  injection h with h;subst h
  refine ⟨by simp,by simp [D.cl],fun H T=>?_⟩
  unfold dY
  rcases tf (decide (32 <= n)) with h1 | h1 <;> simp +contextual only [Wf,h1,go_sem]
 ·cases h
theorem VJ : aO Tryz.prog 145 (φb cZ):=by
 refine aG (l:=[]) .nil VF fun args r h=>?_
 unfold φb at h
 split at h
 ·rename_i n
  injection h with h;subst h
  refine ⟨by simp,by simp [D.cl],fun H T=>?_⟩
  unfold cZ
  simp +contextual only [Us,go_sem]
 ·cases h
theorem UD : aO Tryz.prog 199 (φb b9):=by
 refine aG (l:=[(147,φb fL),(148,φb aB)]) (.cons Mt (.cons Ir .nil)) Ts fun args r h=>?_
 unfold φb at h
 split at h
 ·rename_i n
  injection h with h;subst h
  refine ⟨by simp,by simp [D.cl],fun H T=>?_⟩
  unfold b9
  have p1 : φb fL [.int .u8 n] = some (.bool (fL n)):=rfl
  have p2 : φb aB [.int .u8 n] = some (.bool (aB n)):=rfl
  rcases tf (fL n) with h1 | h1 <;> simp +contextual only [UH,p1,p2,h1,go_sem]
 ·cases h
theorem TC : aO Tryz.prog 146 (φb b9):=by
 refine aG (l:=[(147,φb fL),(148,φb aB)]) (.cons Mt (.cons Ir .nil)) Wy fun args r h=>?_
 unfold φb at h
 split at h
 ·rename_i n
  injection h with h;subst h
  refine ⟨by simp,by simp [D.cl],fun H T=>?_⟩
  unfold b9
  have p1 : φb fL [.int .u8 n] = some (.bool (fL n)):=rfl
  have p2 : φb aB [.int .u8 n] = some (.bool (aB n)):=rfl
  rcases tf (fL n) with h1 | h1 <;> simp +contextual only [Vl,p1,p2,h1,go_sem]
 ·cases h
def aX (p : Int -> Bool) (l : List UInt8) : Nat:=(l.takeWhile fun b=>p (b.toNat : Int)).length
def eX (p : Int -> Bool) (l : List UInt8) (a : Nat) : Nat:=aX p (l.drop a)
theorem AN (p : Int -> Bool) (l : List UInt8) : aX p l <= l.length:=(List.takeWhile_prefix _).sublist.length_le
theorem IE {p : Int -> Bool} : ∀ {l : List UInt8} {i : Nat},(∀ j b,j < i -> l[j]? = some b -> p b.toNat = true) -> i <= l.length -> (i = l.length ∨ ∃ b,l[i]? = some b /\ p b.toNat = false) -> aX p l = i
 | [],i,_,h,_=>by simp at h;subst h;rfl
 | c :: l,0,_,_,h=>by
  rcases h with h | ⟨b,h1,h2⟩
  ·simp at h
  ·simp at h1;subst h1;simp [aX,h2]
 | c :: l,i + 1,h,hi,he=>by
  have hc:=h 0 c (by omega) rfl
  have:=IE (p:=p) (l:=l) (i:=i) (fun j b hj hb=>h (j + 1) b (by omega) (by simpa using hb)) (by simpa using hi) (by simpa using he)
  simp only [aX,List.takeWhile_cons,hc,if_true,List.length_cons] at this ⊢
  omega
theorem Ny {p : Int -> Bool} {l : List UInt8} {a i : Nat} (h : ∀ j b,j < i -> l[a + j]? = some b -> p b.toNat = true) (hi : a + i <= l.length) (he : a + i = l.length ∨ ∃ b,l[a + i]? = some b /\ p b.toNat = false) : eX p l a = i :=
 IE (fun j b hj hb=>h j b hj (by simpa using hb)) (by simp;omega) (he.imp (fun h=>by simp;omega) (fun ⟨b,h1,h2⟩=>⟨b,by simpa using h1,h2⟩))
theorem vJ (p : Int -> Bool) (l : List UInt8) (a : Nat) (h : a <= l.length) : a + eX p l a <= l.length:=by
 have:=AN p (l.drop a)
 unfold eX;simp at this;omega
def zA (f : Nat) : Option (Int -> Bool):=if f = 199 then some b9 else if f = 148 then some aB else if f = 200 then some dY else if f = 145 then some cZ else if f = 146 then some b9 else none
def lst : Fs:=[(199,φb b9),(148,φb aB),(200,φb dY),(145,φb cZ),(146,φb b9)]
theorem RS : Ok Tryz.prog lst:=.cons UD (.cons Ir (.cons XK (.cons VJ (.cons TC .nil))))
theorem Lp {f : Nat} {p : Int -> Bool} (h : zA f = some p) (n : Int) : kF lst f [.int .u8 n] = some (.bool (p n)):=by
 unfold zA at h
 split at h
 ·rename_i e;subst e;injection h with h;subst h;rfl
 split at h
 ·rename_i e;subst e;injection h with h;subst h;rfl
 split at h
 ·rename_i e;subst e;injection h with h;subst h;rfl
 split at h
 ·rename_i e;subst e;injection h with h;subst h;rfl
 split at h
 ·rename_i e;subst e;injection h with h;subst h;rfl
 ·cases h
def kC : List D -> Option D
 | [.str l,.int .i64 a,.fn f [] []]=>match zA f with
  | some p=>if 0 <= a /\ a <= l.length /\ l.length <= 2 ^ 60 then some (.int .i64 (eX p l a.toNat)) else none
  | none=>none
 | _=>none
set_option maxHeartbeats 2000000 in
theorem JF : aO Tryz.prog 144 kC:=by
 refine aG RS Xw fun args r h=>?_
 unfold kC at h
 split at h
 ·rename_i l a f
  split at h
  ·rename_i p hp
   split at h
   ·rename_i hc
    obtain ⟨ha0,ha,hl⟩:=hc
    injection h with h;subst h
    obtain ⟨a,rfl⟩ : ∃ k : Nat,a = (k : Int):=⟨a.toNat,by omega⟩
    have ha : a <= l.length:=by omega
    refine ⟨by simp,by simp [D.cl],fun H T=>?_⟩
    rw [show ((a : Int)).toNat = a from by omega]
    have pl:=fun n=>Lp hp n
    simp +contextual only [Wh,go_sem]
    refine bG (fun i s'=>s'.t 0 = .str l /\ s'.t 1 = .int .i64 a /\ s'.t 2 = .fn f [] [] /\ s'.t 7 = .int .i64 ((a + i : Nat) : Int) /\ s'.H = H /\ s'.T = T /\ a + i <= l.length /\ ∀ j b,j < i -> l[a + j]? = some b -> p b.toNat = true) l.length ⟨0,by simp [upd,bF,ha]⟩ (fun i s h=>by have:=h.2.2.2.2.2.2.1;omega) ?_ (aI _)
    rintro i ⟨t,B,T'⟩ ⟨r0,r1,r2,r7,rfl,rfl,hi,hc⟩
    simp only at r0 r1 r2 r7
    have fin : ∀ {k : Nat},k = i -> (a + k = l.length ∨ ∃ b,l[a + k]? = some b /\ p b.toNat = false) -> eX p l a = k:=fun e h=>by subst e;exact Ny hc hi h
    have wS : IntKind.i64.wrap (((a + i : Nat) : Int) - (a : Int)) = (i : Int):=by rw [iS (by omega) (by omega)];omega
    by_cases hlt : a + i < l.length
    ·have d1 : decide (((a + i : Nat) : Int) < l.length) = true:=by simp only [decide_eq_true_eq];omega
     have ex : l[a + i]? = some l[a + i]:=by simp [hlt]
     obtain ⟨b,hb⟩ : ∃ b,l[a + i] = b:=⟨_,rfl⟩
     rw [hb] at ex
     have q:=pl (b.toNat : Int)
     have ix:=fun k=>dU ex k
     rcases tf (p (b.toNat : Int)) with g | g
     ·have hnx : ∀ j b,j < i + 1 -> l[a + j]? = some b -> p b.toNat = true:=fun j c hj hc'=>by
       rcases Nat.lt_or_ge j i with h' | h'
       ·exact hc j c h' hc'
       ·have : j = i:=by omega
        subst this;rw [ex] at hc';injection hc' with hc';subst hc';exact g
      simp +contextual only [r0,r1,r2,r7,d1,ix,q,g,bT (a + i) (by omega),go_sem]
      exact ⟨by rw [Nat.add_assoc],by omega,hnx⟩
     ·have hr:=fin rfl (.inr ⟨b,ex,g⟩)
      rw [hr]
      simp +contextual only [r0,r1,r2,r7,d1,ix,q,g,wS,go_sem]
    ·have d1 : decide (((a + i : Nat) : Int) < l.length) = false:=by simp only [decide_eq_false_iff_not];omega
     have hr:=fin rfl (.inl (by omega))
     rw [hr]
     simp +contextual only [r0,r1,r2,r7,d1,wS,go_sem]
   ·cases h
  ·cases h
 ·cases h
end GP
namespace GP
open Go Go.Proofs
set_option maxRecDepth 100000
def m8 : Bool -> List UInt8 -> Nat
 | _,[]=>0
 | true,c :: r=>if c == 10 then 1 + m8 false r else 1 + m8 true r
 | false,c :: r=>if c == 32 || c == 10 then 1 + m8 false r else if c == 35 then 1 + m8 true r else 0
theorem wB : ∀ (b : Bool) (l : List UInt8),m8 b l <= l.length
 | b,[]=>by cases b <;> simp [m8]
 | true,c :: r=>by
  have h1:=wB false r;have h2:=wB true r
  simp only [m8,List.length_cons];split <;> omega
 | false,c :: r=>by
  have h1:=wB false r;have h2:=wB true r
  simp only [m8,List.length_cons];split
  ·omega
  ·split <;> omega
def f9 (l : List UInt8) (a : Nat) : Nat:=a + m8 false (l.drop a)
theorem EP {l : List UInt8} {a : Nat} (h : a <= l.length) : a <= f9 l a /\ f9 l a <= l.length:=by
 have:=wB false (l.drop a)
 unfold f9;simp at this;omega
theorem AV : ∀ (l : List UInt8),m8 true l = aX cZ l + m8 false (l.drop (aX cZ l))
 | []=>rfl
 | c :: r=>by
  have ih:=AV r
  by_cases h : c = 10
  ·subst h;simp [m8,aX,cZ]
  ·have h1 : (c == 10) = false:=by simpa using h
   have h2 : cZ (c.toNat : Int) = true:=by
    simp only [cZ,bne_iff_ne,ne_eq]
    intro e;apply h
    exact UInt8.toNat_inj.1 (by simpa using (by omega : c.toNat = 10))
   simp only [m8,h1,Bool.false_eq_true,if_false,aX,List.takeWhile_cons,h2,if_true,List.length_cons,List.drop_succ_cons]
   simp only [aX] at ih
   omega
theorem fK {l : List UInt8} {a : Nat} {b : UInt8} (h : l[a]? = some b) : l.drop a = b :: l.drop (a + 1):=by
 have hlt : a < l.length:=by
  rcases Nat.lt_or_ge a l.length with h' | h'
  ·exact h'
  ·rw [List.getElem?_eq_none h'] at h;cases h
 have : l[a] = b:=by simpa [hlt] using h
 rw [<- this];exact List.drop_eq_getElem_cons hlt
theorem eM (b : UInt8) (n : Nat) (hn : n < 256) : ((b.toNat : Int) == (n : Int)) = (b == UInt8.ofNat n):=by
 rw [Bool.eq_iff_iff,beq_iff_eq,beq_iff_eq]
 constructor
 ·intro h
  have h : b.toNat = n:=by omega
  rw [<- h];simp
 ·rintro rfl
  simp [UInt8.toNat_ofNat,Nat.mod_eq_of_lt hn]
def yE : List D -> Option D
 | [.str l,.int .i64 a]=>if 0 <= a /\ a <= l.length /\ l.length <= 2 ^ 60 then some (.int .i64 (f9 l a.toNat : Nat)) else none
 | _=>none
set_option maxHeartbeats 4000000 in
theorem A04 : aO Tryz.prog 91 yE:=by
 refine aG (l:=[(144,kC)]) (.cons JF .nil) Za fun args r h=>?_
 unfold yE at h
 split at h
 ·rename_i l a
  split at h
  ·rename_i hc
   obtain ⟨ha0,ha,hl⟩:=hc
   injection h with h;subst h
   obtain ⟨a,rfl⟩ : ∃ k : Nat,a = (k : Int):=⟨a.toNat,by omega⟩
   have ha : a <= l.length:=by omega
   refine ⟨by simp,by simp [D.cl],fun H T=>?_⟩
   rw [show ((a : Int)).toNat = a from by omega]
   simp +contextual only [c91,go_sem]
   refine bG (fun i s'=>s'.t 0 = .str l /\ s'.H = H /\ s'.T = T /\ i <= l.length /\ ∃ k : Nat,s'.t 1 = .int .i64 (k : Int) /\ i <= k /\ k <= l.length /\ f9 l k = f9 l a) l.length ⟨0,by simp [upd,bF];exact ⟨a,rfl,ha,rfl⟩⟩ (fun i s h=>h.2.2.2.1) ?_ (aI _)
   rintro i ⟨t,B,T'⟩ ⟨r0,rfl,rfl,hi,k,r1,h1,h2,h3⟩
   simp only at r0 r1
   by_cases hlt : k < l.length
   ·have d1 : decide ((k : Int) < l.length) = true:=by simp only [decide_eq_true_eq];omega
    have ex : l[k]? = some l[k]:=by simp [hlt]
    obtain ⟨b,hb⟩ : ∃ b,l[k] = b:=⟨_,rfl⟩
    rw [hb] at ex
    have ix:=fun q=>dU ex q
    have dr:=fK ex
    have e1 : ((b.toNat : Int) == 32) = (b == 32):=eM b 32 (by decide)
    have e2 : ((b.toNat : Int) == 10) = (b == 10):=eM b 10 (by decide)
    have e3 : ((b.toNat : Int) == 35) = (b == 35):=eM b 35 (by decide)
    have blank : (b == 32 || b == 10) = true -> f9 l (k + 1) = f9 l a:=fun h=>by
     rw [<- h3];unfold f9;rw [dr];simp only [m8];rw [if_pos h];omega
    rcases tf (b == 32) with g1 | g1
    ·have hB:=blank (by rw [g1];rfl)
     simp +contextual only [r0,r1,d1,ix,e1,g1,bT k (by omega),go_sem]
     exact ⟨by omega,k + 1,rfl,by omega,by omega,hB⟩
    rcases tf (b == 10) with g2 | g2
    ·have hB:=blank (by rw [g1,g2];rfl)
     simp +contextual only [r0,r1,d1,ix,e1,e2,g1,g2,bT k (by omega),go_sem]
     exact ⟨by omega,k + 1,rfl,by omega,by omega,hB⟩
    rcases tf (b == 35) with g3 | g3
    ·have pr : kC [.str l,.int .i64 (k : Int),.fn 145 [] []] = some (.int .i64 (eX cZ l k : Nat)):=by
      simp only [kC];rw [show zA 145 = some cZ from rfl];simp only;rw [if_pos ⟨by omega,by omega,by omega⟩];simp
     have hle:=vJ cZ l k (by omega)
     have hnote : cZ (b.toNat : Int) = true:=by
      simp only [cZ,bne];rw [e2,g2];rfl
     have hrun : eX cZ l k = 1 + aX cZ (l.drop (k + 1)):=by
      unfold eX aX;rw [dr];simp only [List.takeWhile_cons,hnote,if_true,List.length_cons];omega
     have hB : f9 l (k + eX cZ l k) = f9 l a:=by
      rw [<- h3];unfold f9
      rw [dr]
      have : m8 false (b :: l.drop (k + 1)) = 1 + m8 true (l.drop (k + 1)):=by
       simp only [m8,g1,g2,g3,Bool.or_self,Bool.false_eq_true,if_false,if_true]
      rw [this,AV,List.drop_drop,hrun,show k + 1 + aX cZ (l.drop (k + 1)) = k + (1 + aX cZ (l.drop (k + 1))) from by omega]
      omega
     have wS : IntKind.i64.wrap ((k : Int) + ((eX cZ l k : Nat) : Int)) = ((k + eX cZ l k : Nat) : Int):=by rw [iS (by omega) (by omega)];omega
     simp +contextual only [r0,r1,d1,ix,e1,e2,e3,g1,g2,g3,pr,wS,go_sem]
     exact ⟨by omega,k + eX cZ l k,rfl,by omega,hle,hB⟩
    ·have hB : f9 l a = k:=by
      rw [<- h3];unfold f9;rw [dr];simp only [m8,g1,g2,g3,Bool.or_self,Bool.false_eq_true,if_false];rfl
     rw [hB]
     simp +contextual only [r0,r1,d1,ix,e1,e2,e3,g1,g2,g3,go_sem]
   ·have d1 : decide ((k : Int) < l.length) = false:=by simp only [decide_eq_false_iff_not];omega
    have hB : f9 l a = k:=by
     rw [<- h3];unfold f9;rw [List.drop_eq_nil_of_le (by omega)];rfl
    rw [hB]
    simp +contextual only [r0,r1,d1,go_sem]
  ·cases h
 ·cases h
def cN : List (List UInt8):=[[61,61],[33,61],[60,61],[62,61],[123],[125],[40],[41],[91],[93],[59],[46],[44],[43],[45],[42],[60],[62]]
def o9 : List D -> Option D
 | []=>some (.sl none (cN.map .str))
 | _=>none
theorem Ps : aO Tryz.prog 151 o9:=by
 refine aG (l:=[]) .nil Xr fun args r h=>?_
 unfold o9 at h
 split at h
 ·injection h with h;subst h
  refine ⟨by simp,by decide,fun H T=>?_⟩
  simp +contextual only [Tj,go_sem]
  rfl
 ·cases h
def nT (l p : List UInt8) : Bool:=l.take p.length == p
def sS : List D -> Option D
 | [.str l,.str p]=>some (.bool (nT l p))
 | _=>none
theorem Vz : aO Tryz.prog 186 sS:=by
 refine aG (l:=[]) .nil Ug fun args r h=>?_
 unfold sS at h
 split at h
 ·rename_i l p
  injection h with h;subst h
  refine ⟨by simp,by simp [D.cl],fun H T=>?_⟩
  unfold nT
  by_cases hl : p.length <= l.length
  ·have d1 : decide ((p.length : Int) <= l.length) = true:=by simp only [decide_eq_true_eq];omega
   have hs : sub (some 0) (some (p.length : Int)) (.str l) = some (.str (l.take p.length)):=by
    rw [zH,if_pos ⟨by omega,by omega,by omega⟩];simp [aP]
   simp +contextual only [RQ,d1,hs,go_sem]
  ·have d1 : decide ((p.length : Int) <= l.length) = false:=by simp only [decide_eq_false_iff_not];omega
   have hf : (l.take p.length == p) = false:=by
    rw [beq_eq_false_iff_ne];intro e
    have:=congrArg List.length e
    simp at this;omega
   simp +contextual only [RQ,d1,hf,go_sem]
 ·cases h
theorem WN : aO Tryz.prog 152 sS:=by
 refine aG (l:=[(186,sS)]) (.cons Vz .nil) Wp fun args r h=>?_
 unfold sS at h
 split at h
 ·rename_i l p
  injection h with h;subst h
  refine ⟨by simp,by simp [D.cl],fun H T=>?_⟩
  have q : sS [.str l,.str p] = some (.bool (nT l p)):=rfl
  simp +contextual only [U6,q,go_sem]
 ·cases h
def oN : List UInt8 -> List UInt8 -> Nat -> List UInt8 × Nat
 | [],_,_=>([],0)
 | c :: r,out,k =>
  if c == 34 then (out,k + 1) else
  if c == 92 then (match r with
   | []=>([],0)
   | d :: r=>if (d != 34) && (d != 92) then ([],0) else if decide (64 < out.length + 1) then ([],0) else oN r (out ++ [d]) (k + 2)) else
  if !(dY c.toNat) then ([],0) else if decide (64 < out.length + 1) then ([],0) else oN r (out ++ [c]) (k + 1)
def CC (l : List UInt8) (a : Nat) : List UInt8 × Nat:=oN (l.drop (a + 1)) [] 1
def wQ (p : List UInt8 × Nat) : D:=.tup [.str p.1,.int .i64 (p.2 : Nat)]
def yF : List D -> Option D
 | [.str l,.int .i64 a]=>if 0 <= a /\ a + 1 <= l.length /\ l.length <= 2 ^ 60 then some (wQ (CC l a.toNat)) else none
 | _=>none
theorem O0 (p : List UInt8 × Nat) : (wQ p).cl 0 0 = true:=by simp [wQ,D.cl,D.clL]
end GP
