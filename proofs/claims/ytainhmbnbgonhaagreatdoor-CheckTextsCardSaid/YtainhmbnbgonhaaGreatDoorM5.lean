import Derived.Test.YtainhmbnbgonhaaGreatDoorProg
import Derived.Test.YtainhmbnbgonhaaGreatDoorM4
set_option linter.unusedSimpArgs false
set_option linter.unnecessarySimpa false
namespace GP
open Go (IntKind BinOp UnOp FuncId TypeId)
def aA (n : Bool) (xs : List D) : D:=if n && xs.isEmpty then .nils else .sl none xs
section
variable {X : d8} {s : S} {K : D -> S -> Prop} {Q : Ex -> S -> Prop} {R : S -> Prop}
theorem aU (n : Bool) (xs : List D) : (aA n xs = .nils /\ xs = []) ∨ aA n xs = .sl none xs:=by
 unfold aA
 cases n <;> cases xs <;> simp
@[go_sem] theorem A0T (t : Nat -> D) (i j : Nat) (d : D) : upd t i d j = if j = i then d else t j:=id rfl
@[go_sem] theorem Zu (a : D) (l : List D) : bF (a :: l) 0 = a:=id rfl
@[go_sem] theorem A0m (a : D) (l : List D) (i : Nat) : bF (a :: l) (i + 1) = bF l i:=id rfl
@[go_sem] theorem ZQ (i : Nat) : bF [] i = .top:=id rfl
@[go_sem] theorem A2i (i : Nat) : S.ev s (.t i) = s.t i:=id rfl
@[go_sem] theorem A2g (d : D) : S.ev s (.k d) = d:=id rfl
@[go_sem] theorem XB (i : Nat) (v : D) : S.put s (some i) v = ⟨upd s.t i v,s.H,s.T⟩:=id rfl
@[go_sem] theorem Vo (v : D) : S.put s none v = s:=id rfl
@[go_sem] theorem Yf (H : Hp) (cs : List D) : eO H (.el cs) = some cs:=id rfl
@[go_sem] theorem v8 (B L : Hp) (n off : Nat) : eO (B ++ L) (.ptr (B.length + n) off) = eO L (.ptr n off):=by
 have : (B ++ L)[B.length + n]? = L[n]?:=by rw [List.getElem?_append_right (by omega)];congr 1;omega
 simp only [eO,this]
@[go_sem] theorem NX (B L : Hp) (off : Nat) : eO (B ++ L) (.ptr B.length off) = eO L (.ptr 0 off):=v8 B L 0 off
@[go_sem] theorem ZS (cs : List D) (L : Hp) (off : Nat) : eO (.row cs :: L) (.ptr 0 off) = some (cs.drop off):=id rfl
@[go_sem] theorem ZM (x : Ob) (L : Hp) (n off : Nat) : eO (x :: L) (.ptr (n + 1) off) = eO L (.ptr n off):=id rfl
@[go_sem] theorem A2f (n : Nat) (cs : List D) : ld true n (some cs) = if n <= cs.length then some (.agg (cs.take n)) else none:=id rfl
@[go_sem] theorem A2k (n : Nat) (c : D) (cs : List D) : ld false n (some (c :: cs)) = some c:=id rfl
@[go_sem] theorem Yy (d : D) : K1 K s (some d) = K d s:=id rfl
@[go_sem] theorem Ym : K1 K s none = False:=id rfl
@[go_sem] theorem A0e (f : S -> Prop) : m9 f Q .normal s = f s:=id rfl
@[go_sem] theorem A1r (f : S -> Prop) (i : Nat) : m9 f Q (.exit i) s = Q (.exit i) s:=id rfl
@[go_sem] theorem A1n (f : S -> Prop) : m9 f Q .ret s = Q .ret s:=id rfl
@[go_sem] theorem ZT (i : Nat) : Ho i Q .normal s = Q .normal s:=id rfl
@[go_sem] theorem A0W (i j : Nat) : Ho i Q (.exit j) s = if j = i then Q .normal s else Q (.exit j) s:=id rfl
@[go_sem] theorem A0k (i : Nat) : Ho i Q .ret s = Q .ret s:=id rfl
@[go_sem] theorem A09 : W X .skip Q s = Q .normal s:=by simp only [W]
@[go_sem] theorem A0C : W X .stop Q s = False:=by simp only [W]
@[go_sem] theorem A1R (is : List I) : W X (.reg is) Q s = Wr X is (Q .normal) s:=by simp only [W]
def holes : Nat -> Hp
 | 0=>[]
 | n + 1=>.hole :: holes n
theorem GI : ∀ n,List.replicate n Ob.hole = holes n
 | 0=>rfl
 | n + 1=>by rw [List.replicate_succ,GI n];rfl
@[go_sem] theorem Yg : holes 0 = []:=id rfl
@[go_sem] theorem YZ (n : Nat) : holes (n + 1) = .hole :: holes n:=id rfl
@[go_sem] theorem YA (is : List (I × List I)) : W X (.draw 0 is) Q s = Wd X is (Q .normal) s:=by simp [W]
@[go_sem] theorem ZK (n : Nat) (is : List (I × List I)) : W X (.draw n is) Q s = Wd X is (Q .normal) ⟨s.t,s.H ++ holes n,s.T⟩:=by simp only [W,GI]
@[go_sem] theorem A1Y (a b : C) : W X (.seq a b) Q s = W X a (m9 (W X b Q) Q) s:=by simp only [W]
@[go_sem] theorem Y0 (i : Nat) (c : C) : W X (.block i c) Q s = W X c (Ho i Q) s:=by simp only [W]
@[go_sem] theorem A1D (i : Nat) : W X (.exit i) Q s = Q (.exit i) s:=by simp only [W]
@[go_sem] theorem A1I : W X .ret Q s = Q .ret s:=by simp only [W]
theorem QQ (c : C) : W X (.loop c) Q s = ∃ (Iv : S -> Prop) (μ : S -> Nat),Iv s /\ ∀ s,Iv s -> W X c (m9 (fun s'=>Iv s' /\ μ s' < μ s) Q) s:=by simp only [W]
def Ew (X : d8) (Q : Ex -> S -> Prop) (s : S) (a b : C) : D -> Prop
 | .bool t=>if t then W X a Q s else W X b Q s
 | _=>False
@[go_sem] theorem A0H (c : Rd) (a b : C) : W X (.cond c a b) Q s = Ew X Q s a b (s.ev c):=by simp only [W];rfl
@[go_sem high] theorem XH (a b : C) : Ew X Q s a b (.bool true) = W X a Q s:=id rfl
@[go_sem high] theorem Tm (a b : C) : Ew X Q s a b (.bool false) = W X b Q s:=id rfl
@[go_sem low] theorem Yz (a b : C) (t : Bool) : Ew X Q s a b (.bool t) = ((t = true -> W X a Q s) /\ (t = false -> W X b Q s)):=by cases t <;> simp [Ew]
@[go_sem] theorem A1l : Wr X [] R s = R s:=by simp only [Wr]
@[go_sem] theorem YP (i : I) (is : List I) : Wr X (i :: is) R s = WI X i s (Wr X is R):=by simp only [Wr]
@[go_sem] theorem A0o : Wd X [] R s = R s:=by simp only [Wd]
@[go_sem] theorem WG (i : I) (is : List (I × List I)) : Wd X ((i,[]) :: is) R s = WI X i s (Wd X is R):=by simp [Wd,eI]
@[go_sem] theorem PL : eI X [] s = True:=id rfl
@[go_sem] theorem NV (i : I) (is : List I) : eI X (i :: is) s = (qH X i s /\ eI X is s):=id rfl
def Kp (d : Option Nat) (K : S -> Prop) (v : D) (s : S) : Prop:=K (s.put d v)
def Ka (X : d8) (js : List I) (K : S -> Prop) (s : S) : Prop:=eI X js s /\ K s
def Ke (u v : D) (_ : S) : Prop:=v = u
@[go_sem] theorem A10 (d : Option Nat) (K : S -> Prop) (v : D) : Kp d K v s = K (s.put d v):=id rfl
@[go_sem] theorem A1O (js : List I) (K : S -> Prop) : Ka X js K s = (eI X js s /\ K s):=id rfl
@[go_sem] theorem A1L (u v : D) : Ke u v s = (v = u):=id rfl
@[go_sem] theorem Yd (i j : I) (js : List I) (is : List (I × List I)) : Wd X ((i,j :: js) :: is) R s = WI X i s (Ka X (j :: js) (Wd X is R)):=by
 have : Ka X (j :: js) (Wd X is R) = fun s'=>eI X (j :: js) s' /\ Wd X is R s':=rfl
 rw [this];simp only [Wd]
def gdD (w : Bool) : D -> Option Bool
 | .bool b=>some (b == w)
 | .tup []=>some false
 | _=>none
@[go_sem] theorem A12 (w : Bool) : gdD w (.tup []) = some false:=id rfl
@[go_sem] theorem A0s : gdD true (.bool true) = some true:=id rfl
@[go_sem] theorem A0h : gdD true (.bool false) = some false:=id rfl
@[go_sem] theorem A1a : gdD false (.bool true) = some false:=id rfl
@[go_sem] theorem Zn : gdD false (.bool false) = some true:=id rfl
@[go_sem] theorem A2j (d : Option Nat) (o : O) (K : S -> Prop) : WI X ⟨d,none,o⟩ s K = WO X o s (Kp d K):=id rfl
@[go_sem] theorem A2e (d : Option Nat) (g : Nat) (w : Bool) (o : O) (K : S -> Prop) : WI X ⟨d,some (g,w),o⟩ s K = WIk X d o s K (gdD w (s.t g)):=id rfl
@[go_sem] theorem A1S (d : Option Nat) (o : O) (K : S -> Prop) : WIk X d o s K (some true) = WO X o s (Kp d K):=id rfl
@[go_sem] theorem A1K (d : Option Nat) (o : O) (K : S -> Prop) : WIk X d o s K (some false) = K (s.put d (.tup [])):=id rfl
@[go_sem low] theorem Zd (d : Option Nat) (o : O) (K : S -> Prop) (b : Bool) : WIk X d o s K (gdD true (.bool b)) = ((b = true -> WO X o s (Kp d K)) /\ (b = false -> K (s.put d (.tup [])))):=by cases b <;> simp [gdD,WIk] <;> rfl
@[go_sem low] theorem ZJ (d : Option Nat) (o : O) (K : S -> Prop) (b : Bool) : WIk X d o s K (gdD false (.bool b)) = ((b = true -> K (s.put d (.tup []))) /\ (b = false -> WO X o s (Kp d K))):=by cases b <;> simp [gdD,WIk] <;> rfl
def stK (X : d8) (s : S) (o : O) (d : Nat) : Option Bool -> Prop
 | some true=>WO X o s (Ke (s.t d))
 | _=>True
@[go_sem] theorem Yv (d : Nat) (o : O) : qH X ⟨some d,none,o⟩ s = WO X o s (Ke (s.t d)):=id rfl
@[go_sem] theorem Ye (d : Nat) (g : Nat) (w : Bool) (o : O) : qH X ⟨some d,some (g,w),o⟩ s = stK X s o d (gdD w (s.t g)):=by
 unfold qH stK
 have : gd s (some (g,w)) = gdD w (s.t g):=by
  simp only [gd]
  unfold gdD
  split <;> simp_all
 rw [this]
 cases gdD w (s.t g) with
 | none=>rfl
 | some b=>cases b <;> rfl
@[go_sem] theorem A1Q (o : O) (d : Nat) : stK X s o d (some true) = WO X o s (Ke (s.t d)):=id rfl
@[go_sem] theorem A16 (o : O) (d : Nat) : stK X s o d (some false) = True:=id rfl
@[go_sem] theorem A13 (x : Rd) : WO X (.mv x) s K = K (s.ev x) s:=id rfl
def Qi (K : D -> S -> Prop) (s : S) : D -> Prop
 | .str l=>K (.str l) s
 | _=>False
@[go_sem] theorem A0w (x : Rd) : WO X (.mvs x) s K = Qi K s (s.ev x):=by
 simp only [WO,qv,Qi]
 cases s.ev x <;> rfl
@[go_sem] theorem Zl (l : List UInt8) : Qi K s (.str l) = K (.str l) s:=id rfl
def Ig (K : D -> S -> Prop) (s : S) (a b : D) : D -> Prop
 | .bool t=>K (if t then a else b) s
 | _=>False
@[go_sem] theorem Ys (c a b : Rd) : WO X (.pick c a b) s K = Ig K s (s.ev a) (s.ev b) (s.ev c):=by
 simp only [WO,qv,Ig]
 cases s.ev c <;> rfl
@[go_sem] theorem Uz (a b : D) : Ig K s a b (.bool true) = K a s:=id rfl
@[go_sem] theorem VZ (a b : D) : Ig K s a b (.bool false) = K b s:=id rfl
@[go_sem] theorem X6 (z : List D) : WO X (.alloc z) s K = K (.ptr s.H.length 0) ⟨s.t,s.H ++ [.row z],s.T⟩:=id rfl
@[go_sem] theorem A1i (x : Rd) : WO X (.box x) s K = ((s.ev x).okc = true /\ K (.ptr s.H.length 0) ⟨s.t,s.H ++ [.row (s.ev x).cells],s.T⟩):=id rfl
@[go_sem] theorem Xu (z : List D) (ps : List (Nat × Nat × Rd)) : WO X (.build z ps) s K = K1 K s (pW z (ps.map fun p=>(p.1,p.2.1,s.ev p.2.2))):=id rfl
@[go_sem] theorem Zg (sz : Nat) (xs : List Rd) : WO X (.bsl sz xs) s K = ((xs.map s.ev).all (fit sz) = true /\ K (.sl (some s.T.length) (xs.map s.ev)) ⟨s.t,s.H,s.T ++ [some (xs.length,sz)]⟩):=id rfl
@[go_sem] theorem Xy (sz : Nat) : WO X (.bslq sz []) s K = K .e0 s:=by
 show K1 K s (if (List.map s.ev []).all (fit sz) then some (slq (List.map s.ev [])) else none) = _
 rw [if_pos (by rfl)];rfl
@[go_sem] theorem T5 (sz : Nat) (x : Rd) (xs : List Rd) : WO X (.bslq sz (x :: xs)) s K = K1 K s (if ((x :: xs).map s.ev).all (fit sz) then some (.sl none ((x :: xs).map s.ev)) else none):=id rfl
@[go_sem] theorem Yh (ag : Bool) (n : Nat) (a : Rd) : WO X (.load ag n a) s K = K1 K s (ld ag n (eO s.H (s.ev a))):=id rfl
@[go_sem] theorem UN (n : Nat) (a v : Rd) : WO X (.store n a v) s K = eA n K s (s.ev a) (s.ev v):=id rfl
def putRow (n off : Nat) (v : D) : List Ob -> Nat -> Option (List Ob)
 | [],_=>none
 | .row cs :: L,0=>if v.okc = true /\ v.cells.length = n /\ off + n <= cs.length then some (.row (cs.take off ++ v.cells ++ cs.drop (off + n)) :: L) else none
 | _ :: _,0=>none
 | x :: L,i + 1=>(putRow n off v L i).map (x :: ·)
def zR (K : D -> S -> Prop) (t : Nat -> D) (B : Hp) (T : Tk) : Option (List Ob) -> Prop
 | some L=>K .top ⟨t,B ++ L,T⟩
 | none=>False
theorem Ai {n off : Nat} {v : D} (t : Nat -> D) (T : Tk) (B : Hp) : ∀ (L : Hp) (i : Nat),eA n K ⟨t,B ++ L,T⟩ (.ptr (B.length + i) off) v = zR K t B T (putRow n off v L i):=by
 have hg : ∀ (L : Hp) (i : Nat),(B ++ L)[B.length + i]? = L[i]?:=fun L i=>by rw [List.getElem?_append_right (by omega)];congr 1;omega
 have hs : ∀ (L : Hp) (i : Nat) x,(B ++ L).set (B.length + i) x = B ++ L.set i x:=fun L i x=>by rw [List.set_append_right _ _ (by omega)];congr 2;omega
 intro L i
 simp only [eA,hg,hs]
 suffices h : ∀ (L : Hp) (i : Nat) (B' : Hp),(match L[i]? with
   | some (.row cs)=>v.okc = true /\ v.cells.length = n /\ off + n <= cs.length /\ K .top ⟨t,B' ++ L.set i (.row (cs.take off ++ v.cells ++ cs.drop (off + n))),T⟩
   | _=>False) = zR K t B' T (putRow n off v L i) from h L i B
 intro L
 induction L with
 | nil=>intro i B';simp [putRow,zR]
 | cons x L ih =>
  intro i B'
  cases i with
  | zero =>
   cases x with
   | row cs =>
    simp only [putRow,List.getElem?_cons_zero,List.set_cons_zero]
    split
    ·rename_i h;simp [zR,h.1,h.2.1,h.2.2]
    ·rename_i h
     simp only [zR,eq_iff_iff,iff_false]
     exact fun k=>h ⟨k.1,k.2.1,k.2.2.1⟩
   | _=>simp [putRow,zR]
  | succ i =>
   have:=ih i (B' ++ [x])
   simp only [List.getElem?_cons_succ,List.set_cons_succ]
   have e3 : ∀ y : Hp,(B' ++ [x]) ++ y = B' ++ x :: y:=fun y=>by simp
   simp only [e3] at this
   rw [this]
   have e : putRow n off v (x :: L) (i + 1) = (putRow n off v L i).map (x :: ·):=by cases x <;> rfl
   rw [e]
   cases putRow n off v L i with
   | none=>rfl
   | some L'=>simp [zR]
@[go_sem] theorem HH (t : Nat -> D) (T : Tk) (B L : Hp) (n i off : Nat) (v : D) : eA n K ⟨t,B ++ L,T⟩ (.ptr (B.length + i) off) v = zR K t B T (putRow n off v L i):=Ai t T B L i
@[go_sem] theorem Q4 (t : Nat -> D) (T : Tk) (B L : Hp) (n off : Nat) (v : D) : eA n K ⟨t,B ++ L,T⟩ (.ptr B.length off) v = zR K t B T (putRow n off v L 0):=Ai t T B L 0
@[go_sem] theorem Uj (n off : Nat) (v : D) (cs : List D) (L : Hp) : putRow n off v (.row cs :: L) 0 = if v.okc = true /\ v.cells.length = n /\ off + n <= cs.length then some (.row (cs.take off ++ v.cells ++ cs.drop (off + n)) :: L) else none:=id rfl
@[go_sem] theorem M6 (n off : Nat) (v : D) (x : Ob) (L : Hp) (i : Nat) : putRow n off v (x :: L) (i + 1) = (putRow n off v L i).map (x :: ·):=by cases x <;> rfl
@[go_sem] theorem A0Y (t : Nat -> D) (B L : Hp) (T : Tk) : zR K t B T (some L) = K .top ⟨t,B ++ L,T⟩:=id rfl
@[go_sem] theorem Z1 (x : Rd) : WO X (.nilc x) s K = K1 K s (Ga (s.ev x)):=id rfl
@[go_sem] theorem Ze (op : BinOp) (x y : Rd) : WO X (.bin op x y) s K = K1 K s (gW op (s.ev x) (s.ev y)):=id rfl
@[go_sem] theorem A0u (ks : List Ck) (neg : Bool) (x y : Rd) : WO X (.eqa ks neg x y) s K = K1 K s (Lk ks neg (s.ev x) (s.ev y)):=id rfl
@[go_sem] theorem A0D (q : Tq) (neg : Bool) (x y : Rd) : WO X (.eq1 q neg x y) s K = K1 K s ((E2 q (s.ev x) (s.ev y)).map fun b=>.bool (b != neg)):=id rfl
@[go_sem] theorem A1X (op : UnOp) (x : Rd) : WO X (.un op x) s K = K1 K s (un1 op (s.ev x)):=id rfl
def MH (k : IntKind) (K : D -> S -> Prop) (s : S) : D -> Prop
 | .int _ n=>K (.int k (k.wrap n)) s
 | _=>False
@[go_sem] theorem Y9 (k : IntKind) (x : Rd) : WO X (.conv k x) s K = MH k K s (s.ev x):=by
 simp only [WO,qv,MH]
 cases s.ev x <;> rfl
@[go_sem] theorem YB (k k' : IntKind) (n : Int) : MH k K s (.int k' n) = K (.int k (k.wrap n)) s:=id rfl
@[go_sem] theorem Vp (off : Nat) (x : Rd) : WO X (.faddr off x) s K = K1 K s (fa off (s.ev x)):=id rfl
@[go_sem] theorem UO (ag : Bool) (off n : Nat) (x : Rd) : WO X (.field ag off n x) s K = K1 K s (fld ag off n (s.ev x)):=id rfl
@[go_sem] theorem Ux (sz : Nat) (x i : Rd) : WO X (.iaddr sz x i) s K = K1 K s (ia sz (s.ev x) (s.ev i)):=id rfl
@[go_sem] theorem YK (x i : Rd) : WO X (.idxs x i) s K = K1 K s (ixs (s.ev x) (s.ev i)):=id rfl
@[go_sem] theorem Y3 (ag : Bool) (sz len : Nat) (x i : Rd) : WO X (.idxa ag sz len x i) s K = K1 K s (ixa ag sz len (s.ev x) (s.ev i)):=id rfl
@[go_sem] theorem Zj (i : Nat) (x : Rd) : WO X (.ext i x) s K = K1 K s (K4 i (s.ev x)):=id rfl
@[go_sem] theorem A1w (i : Nat) (vs : List D) : K4 i (.tup vs) = vs[i]?:=id rfl
@[go_sem] theorem YG (f : FuncId) (first cap : List Rd) : WO X (.mkfn f first cap) s K = K (.fn f (first.map s.ev) (cap.map s.ev)) s:=id rfl
def Ox (K : D -> S -> Prop) (s : S) : Option Nat -> Prop
 | some n=>K (.int .i64 (n : Int)) s
 | none=>False
@[go_sem] theorem A0i (n : Nat) : Ox K s (some n) = K (.int .i64 (n : Int)) s:=id rfl
@[go_sem] theorem A1u (x : Rd) : WO X (.len x) s K = Ox K s (dZ (s.ev x)):=by
 simp only [WO,qv]
 cases dZ (s.ev x) <;> rfl
@[go_sem] theorem YR (x : Rd) : WO X (.capz x) s K = Ox K s (CE (s.ev x)):=by
 simp only [WO,qv]
 cases CE (s.ev x) <;> rfl
@[go_sem] theorem SU : CE .nils = some 0:=id rfl
@[go_sem] theorem Yn : CE .e0 = some 0:=id rfl
@[go_sem] theorem YY (x : Rd) : WO X (.lens x) s K = Ox K s (kO (s.ev x)):=by
 simp only [WO,qv]
 cases kO (s.ev x) <;> rfl
@[go_sem] theorem A1V (a b : Rd) : WO X (.mn a b) s K = K1 K s (mn2 (s.ev a) (s.ev b)):=id rfl
@[go_sem] theorem A17 (a b : Rd) : WO X (.mx a b) s K = K1 K s (mx2 (s.ev a) (s.ev b)):=id rfl
@[go_sem] theorem A11 (k : IntKind) (a b : Int) : mn2 (.int k a) (.int k b) = some (.int k (if b < a then b else a)):=id rfl
@[go_sem] theorem A1W (k : IntKind) (a b : Int) : mx2 (.int k a) (.int k b) = some (.int k (if b > a then b else a)):=id rfl
def Rf (K : D -> S -> Prop) (s : S) (lo hi : Option Rd) : D -> Prop
 | .str l=>K1 K s (sub (cX s 0 lo) (cX s l.length hi) (.str l))
 | _=>False
@[go_sem] theorem Yi (x : Rd) (lo hi : Option Rd) : WO X (.subs x lo hi) s K = Rf K s lo hi (s.ev x):=by
 simp only [WO,qv,Rf]
 cases s.ev x <;> rfl
@[go_sem] theorem Z8 (lo hi : Option Rd) (l : List UInt8) : Rf K s lo hi (.str l) = K1 K s (sub (cX s 0 lo) (cX s l.length hi) (.str l)):=id rfl
def Um : D -> Option Int
 | .int _ n=>some n
 | _=>none
@[go_sem] theorem A0Z (d : Nat) : cX s d none = some (d : Int):=id rfl
@[go_sem high] theorem A0U : cX s 0 none = some 0:=id rfl
@[go_sem] theorem ZN (d : Nat) (r : Rd) : cX s d (some r) = Um (s.ev r):=id rfl
@[go_sem] theorem A06 (k : IntKind) (n : Int) : Um (.int k n) = some n:=id rfl
theorem zH (l h : Int) (b : List UInt8) : sub (some l) (some h) (.str b) = if 0 <= l /\ l <= h /\ h <= b.length then some (.str (aP b l.toNat h.toNat)) else none:=rfl
@[go_sem] theorem Sq (f : Rd) (args : List Rd) : WO X (.pcall f args) s K = cT X (args.map s.ev) K s (s.ev f):=id rfl
@[go_sem] theorem Ya (f : Rd) (args : List Rd) : WO X (.call f args) s K = wM X (args.map s.ev) K s (s.ev f):=id rfl
@[go_sem] theorem SG (l : Fs) (args : List D) (f : FuncId) (first cap : List D) : cT (XL l) args K s (.fn f first cap) = K1 K s (kF l f (D.eraseL (first ++ args ++ cap))):=by
 simp only [cT,eq_iff_iff]
 constructor
 ·rintro ⟨r,h1,h2⟩
  have:=h1 s.H s.T (fun r' _ _=>r' = r) (fun _ _ h _=>h) rfl
  unfold XL at this
  split at this
  ·rename_i r' hr;subst this;rw [hr];exact h2
  ·exact this.elim
 ·intro h
  cases hr : kF l f (D.eraseL (first ++ args ++ cap)) with
  | none=>rw [hr] at h;exact h.elim
  | some r =>
   rw [hr] at h
   refine ⟨r,fun H' T' Q' _ hQ=>?_,h⟩
   unfold XL
   rw [hr];exact hQ
@[go_sem] theorem Xp (f : FuncId) (a : List D) : kF [] f a = none:=id rfl
@[go_sem] theorem SP (g : FuncId) (φ : List D -> Option D) (l : Fs) (f : FuncId) (a : List D) : kF ((g,φ) :: l) f a = if f = g then φ a else kF l f a:=id rfl
@[go_sem] theorem W3 : D.eraseL [] = []:=by simp [D.eraseL]
@[go_sem] theorem Xn (d : D) (l : List D) : D.eraseL (d :: l) = d.erase :: D.eraseL l:=by simp [D.eraseL]
@[go_sem] theorem Rm (b : Bool) : (D.bool b).erase = .bool b:=by simp [D.erase]
@[go_sem] theorem SA (k : IntKind) (n : Int) : (D.int k n).erase = .int k n:=by simp [D.erase]
@[go_sem] theorem SL (l : List UInt8) : (D.str l).erase = .str l:=by simp [D.erase]
@[go_sem] theorem Rk : D.nils.erase = .nils:=by simp [D.erase]
@[go_sem] theorem QG : D.nilp.erase = .nilp:=by simp [D.erase]
@[go_sem] theorem QP : D.nilf.erase = .nilf:=by simp [D.erase]
@[go_sem] theorem Rt : D.nili.erase = .nili:=by simp [D.erase]
@[go_sem] theorem SK (cs : List D) : (D.agg cs).erase = .agg (D.eraseL cs):=by simp [D.erase]
@[go_sem] theorem SQ (cs : List D) : (D.tup cs).erase = .tup (D.eraseL cs):=by simp [D.erase]
@[go_sem] theorem WR (t : Option Nat) (cs : List D) : (D.sl t cs).erase = .sl none (D.eraseL cs):=by simp [D.erase]
@[go_sem] theorem XS (f : FuncId) (a b : List D) : (D.fn f a b).erase = .fn f (D.eraseL a) (D.eraseL b):=by simp [D.erase]
@[go_sem] theorem S9 (t : TypeId) (d : D) : (D.ifc t d).erase = .ifc t d.erase:=by simp [D.erase]
@[go_sem] theorem bE (n : Bool) (xs : List D) : (aA n xs).erase = aA n (D.eraseL xs):=by
 unfold aA
 cases n <;> cases xs <;> simp [D.erase,D.eraseL]
@[go_sem] theorem SS : dZ .nils = some 0:=id rfl
@[go_sem] theorem YT (t : Option Nat) (xs : List D) : dZ (.sl t xs) = some xs.length:=id rfl
@[go_sem] theorem Pa (n : Bool) (xs : List D) : dZ (aA n xs) = some xs.length:=by
 rcases aU n xs with ⟨h,rfl⟩ | h <;> rw [h] <;> rfl
@[go_sem] theorem Wt (l : List UInt8) : kO (.str l) = some l.length:=id rfl
@[go_sem] theorem YC (cs : List D) : (D.agg cs).okc = true:=id rfl
@[go_sem] theorem YL (k : IntKind) (n : Int) : (D.int k n).okc = true:=id rfl
@[go_sem] theorem Y4 (l : List UInt8) : (D.str l).okc = true:=id rfl
@[go_sem] theorem TG (b : Bool) : (D.bool b).okc = true:=id rfl
@[go_sem] theorem A0Q (t : Option Nat) (xs : List D) : (D.sl t xs).okc = true:=id rfl
@[go_sem] theorem Wa : D.nils.okc = true:=id rfl
@[go_sem] theorem Qa (n : Bool) (xs : List D) : (aA n xs).okc = true:=by
 rcases aU n xs with ⟨h,_⟩ | h <;> rw [h] <;> rfl
@[go_sem] theorem ST (cs : List D) : (D.agg cs).cells = cs:=id rfl
@[go_sem] theorem SE (k : IntKind) (n : Int) : (D.int k n).cells = [.int k n]:=id rfl
@[go_sem] theorem SF (l : List UInt8) : (D.str l).cells = [.str l]:=id rfl
@[go_sem] theorem QH (b : Bool) : (D.bool b).cells = [.bool b]:=id rfl
@[go_sem] theorem Uu (t : Option Nat) (xs : List D) : (D.sl t xs).cells = [.sl t xs]:=id rfl
@[go_sem] theorem RE : D.nils.cells = [.nils]:=id rfl
@[go_sem] theorem Oh (n : Bool) (xs : List D) : (aA n xs).cells = [aA n xs]:=by
 rcases aU n xs with ⟨h,_⟩ | h <;> rw [h] <;> rfl
@[go_sem] theorem Vx (f : FuncId) (a b : List D) : (D.fn f a b).cells = [.fn f a b]:=id rfl
@[go_sem] theorem A18 (off : Nat) (cs : List D) : fa off (.el cs) = some (.el (cs.drop off)):=id rfl
@[go_sem] theorem ZZ (off o f : Nat) : fa off (.ptr o f) = some (.ptr o (f + off)):=id rfl
@[go_sem] theorem Y2 (b : Bool) : un1 .not (.bool b) = some (.bool (!b)):=id rfl
@[go_sem] theorem Yl (k : IntKind) (n : Int) : un1 .neg (.int k n) = some (.int k (k.wrap (0 - n))):=id rfl
@[go_sem] theorem YX (k : IntKind) (a b : Int) : gW .eql (.int k a) (.int k b) = some (.bool (a == b)):=by simp [gW,fC,lN]
@[go_sem] theorem Z6 (k : IntKind) (a b : Int) : gW .neq (.int k a) (.int k b) = some (.bool (a != b)):=by simp [gW,fC,lN]
@[go_sem] theorem Y8 (k : IntKind) (a b : Int) : gW .lss (.int k a) (.int k b) = some (.bool (decide (a < b))):=by simp [gW,fC,lN]
@[go_sem] theorem YQ (k : IntKind) (a b : Int) : gW .leq (.int k a) (.int k b) = some (.bool (decide (a <= b))):=by simp [gW,fC,lN]
@[go_sem] theorem Z3 (k : IntKind) (a b : Int) : gW .gtr (.int k a) (.int k b) = some (.bool (decide (b < a))):=by simp [gW,fC,lN]
@[go_sem] theorem YS (k : IntKind) (a b : Int) : gW .geq (.int k a) (.int k b) = some (.bool (decide (b <= a))):=by simp [gW,fC,lN]
@[go_sem] theorem Y7 (k : IntKind) (a b : Int) : gW .add (.int k a) (.int k b) = some (.int k (k.wrap (a + b))):=by simp [gW,fC,lN]
@[go_sem] theorem Yx (k : IntKind) (a b : Int) : gW .sub (.int k a) (.int k b) = some (.int k (k.wrap (a - b))):=by simp [gW,fC,lN]
@[go_sem] theorem Yj (k : IntKind) (a b : Int) : gW .mul (.int k a) (.int k b) = some (.int k (k.wrap (a * b))):=by simp [gW,fC,lN]
@[go_sem] theorem Yp (k : IntKind) (a b : Int) : gW .rem (.int k a) (.int k b) = if b = 0 then none else some (.int k (a.tmod b)):=by simp [gW,fC,lN]
@[go_sem] theorem YH (k : IntKind) (a b : Int) : gW .quo (.int k a) (.int k b) = if b = 0 then none else some (.int k (k.wrap (a.tdiv b))):=by simp [gW,fC,lN]
@[go_sem] theorem UQ (a b : List UInt8) : gW .eql (.str a) (.str b) = some (.bool (a == b)):=id rfl
@[go_sem] theorem VS (a b : List UInt8) : gW .neq (.str a) (.str b) = some (.bool (a != b)):=id rfl
@[go_sem] theorem U4 (a b : List UInt8) : gW .lss (.str a) (.str b) = some (.bool (bytesLess a b)):=id rfl
@[go_sem] theorem WX (a b : Bool) : E2 .bool (.bool a) (.bool b) = some (a == b):=id rfl
@[go_sem] theorem Uy : E2 .slc .nils .nils = some true:=id rfl
@[go_sem] theorem A0O (ks : List Ck) (neg : Bool) (xs ys : List D) : Lk ks neg (.agg xs) (.agg ys) = if fV xs ks then (bA xs ys).map (fun b=>.bool (b != neg)) else none:=id rfl
@[go_sem] theorem A0I : fV [] [] = true:=id rfl
@[go_sem] theorem A1o (k : IntKind) (n : Int) (ds : List D) (ks : List Ck) : fV (.int k n :: ds) (.int :: ks) = fV ds ks:=by simp [fV,ckD]
@[go_sem] theorem Zb (l : List UInt8) (ds : List D) (ks : List Ck) : fV (.str l :: ds) (.str :: ks) = fV ds ks:=by simp [fV,ckD]
@[go_sem] theorem ZX (b : Bool) (ds : List D) (ks : List Ck) : fV (.bool b :: ds) (.bool :: ks) = fV ds ks:=by simp [fV,ckD]
def Ns : Bool -> Option Bool -> Option Bool
 | p,some q=>some (p && q)
 | _,none=>none
@[go_sem] theorem SN : bA [] [] = some true:=id rfl
@[go_sem] theorem SD (k : IntKind) (a b : Int) (aS bs : List D) : bA (.int k a :: aS) (.int k b :: bs) = Ns (a == b) (bA aS bs):=by
 simp only [bA,iF,if_true]
 cases bA aS bs <;> rfl
@[go_sem] theorem SR (a b : List UInt8) (aS bs : List D) : bA (.str a :: aS) (.str b :: bs) = Ns (a == b) (bA aS bs):=by
 simp only [bA,iF]
 cases bA aS bs <;> rfl
@[go_sem] theorem SI (a b : Bool) (aS bs : List D) : bA (.bool a :: aS) (.bool b :: bs) = Ns (a == b) (bA aS bs):=by
 simp only [bA,iF]
 cases bA aS bs <;> rfl
@[go_sem] theorem A0X (p q : Bool) : Ns p (some q) = some (p && q):=id rfl
@[go_sem] theorem UA (z : List D) : pW z [] = some (.agg z):=id rfl
@[go_sem] theorem VQ (z : List D) (off sz : Nat) (d : D) (ps : List (Nat × Nat × D)) : pW z ((off,sz,d) :: ps) = if d.okc = true /\ d.cells.length = sz /\ off + d.cells.length <= z.length then pW (z.take off ++ d.cells ++ z.drop (off + d.cells.length)) ps else none:=by
 simp only [pW,List.all_cons,List.map_cons,sX,fit,Bool.and_eq_true,beq_iff_eq]
 by_cases h1 : d.okc = true <;> by_cases h2 : d.cells.length = sz <;> by_cases h3 : off + d.cells.length <= z.length <;> by_cases hq : (ps.all fun p=>p.2.2.okc && p.2.2.cells.length == p.2.1) = true <;>
  simp only [h1,h2,h3,hq,and_self,and_true,true_and,and_false,false_and,if_true,if_false,Option.map_none] <;> (first | rfl | (simp only [<- h2,h3,if_true,if_false,Option.map_none];done) | simp)
@[go_sem] theorem Py (sz : Nat) (t : Option Nat) (xs : List D) (k : IntKind) (n : Int) : ia sz (.sl t xs) (.int k n) = if 0 <= n then iaE sz xs[n.toNat]? else none:=id rfl
@[go_sem] theorem D1 (sz : Nat) (b : Bool) (xs : List D) (k : IntKind) (n : Int) : ia sz (aA b xs) (.int k n) = if 0 <= n then iaE sz xs[n.toNat]? else none:=by
 rcases aU b xs with ⟨h,rfl⟩ | h <;> rw [h]
 ·simp [ia,iaE]
 ·rfl
@[go_sem] theorem A1P (sz : Nat) (d : D) : iaE sz (some d) = if d.cells.length = sz then some (.el d.cells) else none:=id rfl
@[go_sem] theorem RY (sz : Nat) (d : D) : fit sz d = (d.okc && d.cells.length == sz):=id rfl
variable {Q0 : dM}
@[go_sem] theorem A08 (rs : List (Sum Nat (Nat × Bool × Nat))) : mW rs Q0 .normal s = HA rs Q0 s:=id rfl
@[go_sem] theorem ZU (rs : List (Sum Nat (Nat × Bool × Nat))) : mW rs Q0 .ret s = HA rs Q0 s:=id rfl
def RL (Q0 : dM) (s : S) : Option (List D) -> Prop
 | some ds=>Q0 (HM ds) s.H s.T
 | none=>False
def LA : Option D -> Option (List D) -> Option (List D)
 | some d,some ds=>some (d :: ds)
 | _,_=>none
@[go_sem] theorem Z5 (rs : List (Sum Nat (Nat × Bool × Nat))) : HA rs Q0 s = RL Q0 s (p9 rs s):=by
 simp only [HA,RL]
 cases p9 rs s <;> rfl
@[go_sem] theorem Zc : p9 [] s = some []:=id rfl
@[go_sem] theorem A0c (t : Nat) (l : List (Sum Nat (Nat × Bool × Nat))) : p9 (.inl t :: l) s = LA (some (s.t t)) (p9 l s):=by
 simp only [p9]
 cases p9 l s <;> rfl
@[go_sem] theorem A00 (x n : Nat) (ag : Bool) (l : List (Sum Nat (Nat × Bool × Nat))) : p9 (.inr (x,ag,n) :: l) s = LA (ld ag n (eO s.H (s.t x))) (p9 l s):=by
 simp only [p9]
 cases ld ag n (eO s.H (s.t x)) <;> cases p9 l s <;> rfl
@[go_sem] theorem Yt (d : D) (ds : List D) : LA (some d) (some ds) = some (d :: ds):=id rfl
@[go_sem] theorem Zt (ds : List D) : RL Q0 s (some ds) = Q0 (HM ds) s.H s.T:=id rfl
@[go_sem] theorem Zp (d : D) : HM [d] = d:=id rfl
@[go_sem] theorem A0v : HM [] = .tup []:=id rfl
@[go_sem] theorem A1s (d e : D) (ds : List D) : HM (d :: e :: ds) = .tup (d :: e :: ds):=id rfl
@[go_sem] theorem We (r r0 : D) (H : Hp) (T : Tk) : i5 r0 H T r H T = (r.erase = r0):=by
 simp [i5]
@[go_sem] theorem VC (r r0 : D) (H L : Hp) (T : Tk) : i5 r0 H T r (H ++ L) T = (r.erase = r0):=by
 simp [i5]
@[go_sem] theorem VP (r r0 : D) (H : Hp) (T U : Tk) : i5 r0 H T r H (T ++ U) = (r.erase = r0):=by
 simp [i5]
@[go_sem] theorem Xt (r r0 : D) (H L : Hp) (T U : Tk) : i5 r0 H T r (H ++ L) (T ++ U) = (r.erase = r0):=by
 simp [i5]
def mK (o : Hp) (x : Ob) : Nat -> Option Hp
 | 0=>match o with | .hole :: L=>some (x :: L) | _=>none
 | i + 1=>match o with | y :: L=>(mK L x i).map (y :: ·) | []=>none
@[go_sem] theorem YW (x : Ob) (L : Hp) : mK (.hole :: L) x 0 = some (x :: L):=id rfl
@[go_sem] theorem YV (x y : Ob) (L : Hp) (i : Nat) : mK (y :: L) x (i + 1) = (mK L x i).map (y :: ·):=id rfl
def atQ (K : D -> S -> Prop) (t : Nat -> D) (B : Hp) (T : Tk) (i : Nat) : Option Hp -> Prop
 | some L=>K (.ptr (B.length + i) 0) ⟨t,B ++ L,T⟩
 | none=>False
@[go_sem] theorem A2b (t : Nat -> D) (B L : Hp) (T : Tk) (i : Nat) : atQ K t B T i (some L) = K (.ptr (B.length + i) 0) ⟨t,B ++ L,T⟩:=id rfl
theorem Bj (x : Ob) : ∀ (L : Hp) (i : Nat),mK L x i = match L[i]? with | some .hole=>some (L.set i x) | _=>none
 | [],0=>by simp [mK]
 | [],i + 1=>by simp [mK]
 | y :: L,0=>by cases y <;> simp [mK]
 | y :: L,i + 1=>by
  simp only [mK,Bj x L i,List.getElem?_cons_succ,List.set_cons_succ]
  cases L[i]? with
  | none=>rfl
  | some z=>cases z <;> rfl
theorem AK {α : Type} (B L : List α) (i : Nat) : (B ++ L)[B.length + i]? = L[i]?:=by rw [List.getElem?_append_right (by omega)];congr 1;omega
theorem vK {α : Type} (B L : List α) (i : Nat) (x : α) : (B ++ L).set (B.length + i) x = B ++ L.set i x:=by rw [List.set_append_right _ _ (by omega)];congr 2;omega
theorem EV {α : Type} (B L : List α) {j : Nat} (h : j <= L.length) : (B ++ L).length - j = B.length + (L.length - j):=by simp;omega
def O6 (p : Prop) : Prop:=p
theorem IC (t : Nat -> D) (B L : Hp) (T : Tk) (z : List D) (i : Nat) : atK K ⟨t,B ++ L,T⟩ (B.length + i) z (B ++ L)[B.length + i]? = atQ K t B T i (mK L (.row z) i):=by
 rw [AK,Bj]
 cases h : L[i]? with
 | none=>simp [atK,atQ]
 | some x=>cases x <;> simp [atK,atQ,vK]
theorem NP (t : Nat -> D) (B L : Hp) (T : Tk) (z : List D) (i : Nat) : zP K ⟨t,B ++ L,T⟩ (B.length + i) z (B ++ L)[B.length + i]? = atQ K t B T i (mK L (.raw z) i):=by
 rw [AK,Bj]
 cases h : L[i]? with
 | none=>simp [zP,atQ]
 | some x=>cases x <;> simp [zP,atQ,vK]
@[go_sem] theorem Qx (t : Nat -> D) (B L : Hp) (T : Tk) (j : Nat) (z : List D) : WO X (.allocAt j z) ⟨t,B ++ L,T⟩ K = if j <= L.length then atQ K t B T (L.length - j) (mK L (.row z) (L.length - j)) else O6 (WO X (.allocAt j z) ⟨t,B ++ L,T⟩ K):=by
 split
 ·rename_i h
  rw [<- IC]
  show atK K ⟨t,B ++ L,T⟩ ((B ++ L).length - j) z (B ++ L)[(B ++ L).length - j]? = _
  rw [EV B L h]
 ·rfl
@[go_sem] theorem WE (t : Nat -> D) (B L : Hp) (T : Tk) (j : Nat) (x : Rd) : WO X (.boxAt j x) ⟨t,B ++ L,T⟩ K = if j <= L.length then ((S.ev ⟨t,B ++ L,T⟩ x).okc = true /\ atQ K t B T (L.length - j) (mK L (.row (S.ev ⟨t,B ++ L,T⟩ x).cells) (L.length - j))) else O6 (WO X (.boxAt j x) ⟨t,B ++ L,T⟩ K):=by
 split
 ·rename_i h
  rw [<- IC]
  show (_ /\ atK K ⟨t,B ++ L,T⟩ ((B ++ L).length - j) _ (B ++ L)[(B ++ L).length - j]?) = _
  rw [EV B L h]
 ·rfl
@[go_sem] theorem VD (t : Nat -> D) (B L : Hp) (T : Tk) (j : Nat) (z : List D) : WO X (.rawAt j z) ⟨t,B ++ L,T⟩ K = if j <= L.length then atQ K t B T (L.length - j) (mK L (.raw z) (L.length - j)) else O6 (WO X (.rawAt j z) ⟨t,B ++ L,T⟩ K):=by
 split
 ·rename_i h
  rw [<- NP]
  show (j <= (B ++ L).length /\ zP K ⟨t,B ++ L,T⟩ ((B ++ L).length - j) z (B ++ L)[(B ++ L).length - j]?) = _
  rw [EV B L h]
  have : j <= (B ++ L).length:=by simp;omega
  simp only [this,true_and]
 ·rfl
def jX (n : Nat) (v : D) : Hp -> Nat -> Option Hp
 | .raw z :: L,0=>if z.length = n /\ v.okc = true /\ v.cells.length = n then some (.row v.cells :: L) else none
 | y :: L,i + 1=>(jX n v L i).map (y :: ·)
 | _,_=>none
@[go_sem] theorem SH (n : Nat) (v : D) (z : List D) (L : Hp) : jX n v (.raw z :: L) 0 = if z.length = n /\ v.okc = true /\ v.cells.length = n then some (.row v.cells :: L) else none:=id rfl
@[go_sem] theorem Jk (n : Nat) (v : D) (y : Ob) (L : Hp) (i : Nat) : jX n v (y :: L) (i + 1) = (jX n v L i).map (y :: ·):=by cases y <;> rfl
def BT (K : D -> S -> Prop) (t : Nat -> D) (B : Hp) (T : Tk) : Option Hp -> Prop
 | some L=>K .top ⟨t,B ++ L,T⟩
 | none=>False
@[go_sem] theorem YO (t : Nat -> D) (B L : Hp) (T : Tk) : BT K t B T (some L) = K .top ⟨t,B ++ L,T⟩:=id rfl
theorem qE (t : Nat -> D) (B : Hp) (T : Tk) (n : Nat) (v : D) : ∀ (L : Hp) (i : Nat),BT K t B T (jX n v L i) ↔ ∃ z,L[i]? = some (.raw z) /\ z.length = n /\ v.okc = true /\ v.cells.length = n /\ K .top ⟨t,B ++ L.set i (.row v.cells),T⟩
 | [],0=>by simp [jX,BT]
 | [],i + 1=>by simp [jX,BT]
 | y :: L,0=>by
  cases y <;> simp [jX,BT]
  rename_i z
  by_cases h : z.length = n /\ v.okc = true /\ v.cells.length = n
  ·rw [if_pos h];simp [h.1,h.2.1,h.2.2]
  ·rw [if_neg h]
   simp only [false_iff]
   exact fun k=>h ⟨k.1,k.2.1,k.2.2.1⟩
 | y :: L,i + 1=>by
  have:=qE t (B ++ [y]) T n v L i
  simp only [List.append_assoc,List.singleton_append] at this
  simp only [List.getElem?_cons_succ,List.set_cons_succ]
  rw [<- this,Jk]
  cases jX n v L i <;> simp [BT]
def GU (i : Nat) (p : Prop) : D -> Prop
 | .ptr o 0=>if o = i then p else False
 | _=>False
@[go_sem] theorem Z4 (i : Nat) (p : Prop) : GU i p (.ptr i 0) = p:=by simp [GU]
@[go_sem] theorem SO (t : Nat -> D) (B L : Hp) (T : Tk) (j n : Nat) (a v : Rd) : WO X (.fillAt j n a v) ⟨t,B ++ L,T⟩ K = if j <= L.length then GU (B.length + (L.length - j)) (BT K t B T (jX n (S.ev ⟨t,B ++ L,T⟩ v) L (L.length - j))) (S.ev ⟨t,B ++ L,T⟩ a) else O6 (WO X (.fillAt j n a v) ⟨t,B ++ L,T⟩ K):=by
 split
 ·rename_i h
  show (j <= (B ++ L).length /\ tB K ⟨t,B ++ L,T⟩ ((B ++ L).length - j) n _ _ (B ++ L)[(B ++ L).length - j]?) = _
  rw [EV B L h]
  have hj : j <= (B ++ L).length:=by simp;omega
  simp only [hj,true_and,eq_iff_iff]
  generalize S.ev ⟨t,B ++ L,T⟩ a = a
  generalize S.ev ⟨t,B ++ L,T⟩ v = v
  rw [AK]
  constructor
  ·intro k
   obtain ⟨z,h1,h2,h3,h4,h5,h6⟩:=BZ k
   subst h2
   simp only [GU,if_true]
   exact (qE t B T n v L _).2 ⟨z,h1,h3,h4,h5,by simpa only [vK] using h6⟩
  ·intro k
   unfold GU at k
   split at k
   ·split at k
    ·rename_i e;subst e
     obtain ⟨z,h1,h3,h4,h5,h6⟩:=(qE t B T n v L _).1 k
     rw [h1]
     exact ⟨rfl,h3,h4,h5,by simpa only [vK] using h6⟩
    ·exact k.elim
   ·exact k.elim
 ·rfl
def Wl (K : D -> S -> Prop) (s : S) (sz : Nat) (lo hi : Option Rd) (x : D) : Option Nat -> Prop
 | some n=>K1 K s (slc sz (cX s 0 lo) (cX s n hi) x)
 | none=>False
@[go_sem] theorem A0x (sz : Nat) (x : Rd) (lo hi : Option Rd) : WO X (.sls sz x lo hi) s K = Wl K s sz lo hi (s.ev x) (dZ (s.ev x)):=by
 simp only [WO,qv]
 cases dZ (s.ev x) <;> rfl
@[go_sem] theorem A0f (sz : Nat) (lo hi : Option Rd) (x : D) (n : Nat) : Wl K s sz lo hi x (some n) = K1 K s (slc sz (cX s 0 lo) (cX s n hi) x):=id rfl
def Q8 (K : D -> S -> Prop) (s : S) (sz : Nat) (lo hi mx : Option Rd) (x : D) : Option Nat -> Prop
 | some n=>K1 K s (F9 sz (cX s 0 lo) (cX s n hi) (cX s n mx) x)
 | none=>False
@[go_sem] theorem YJ (sz : Nat) (x : Rd) (lo hi mx : Option Rd) : WO X (.sls3 sz x lo hi mx) s K = Q8 K s sz lo hi mx (s.ev x) (dZ (s.ev x)):=by
 simp only [WO,qv]
 cases dZ (s.ev x) <;> rfl
@[go_sem] theorem YD (sz : Nat) (lo hi mx : Option Rd) (x : D) (n : Nat) : Q8 K s sz lo hi mx x (some n) = K1 K s (F9 sz (cX s 0 lo) (cX s n hi) (cX s n mx) x):=id rfl
@[go_sem] theorem A03 (st : Bool) (sz bytes : Nat) (x y : Rd) : WO X (.app st sz bytes x y) s K = mB sz bytes K s (s.ev x) (dG st (s.ev y)):=id rfl
@[go_sem] theorem Y6 (ag st : Bool) (sz bytes : Nat) (x y : Rd) : WO X (.appm ag st sz bytes x y) s K = z9 ag sz bytes K s (s.ev x) (dR s.H st sz (s.ev y)):=id rfl
@[go_sem] theorem YI (ag : Bool) (sz : Nat) (xs : List Rd) : WO X (.bslm ag sz xs) s K = ((xs.map s.ev).all (fit sz) = true /\ K (.ms ag sz s.H.length 0 xs.length xs.length) ⟨s.t,s.H ++ [.row (aT (xs.map s.ev))],s.T⟩):=id rfl
@[go_sem] theorem Xz (sz : Nat) (x y : Rd) : WO X (.copy sz x y) s K = Bc sz K s (s.ev x) (dR s.H false sz (s.ev y)):=id rfl
@[go_sem] theorem A1t (z : List D) (x : Rd) : WO X (.clr z x) s K = CG z K s (s.ev x):=id rfl
@[go_sem] theorem Yk (ag : Bool) (sz bytes : Nat) (z : List D) (x y : Rd) : WO X (.appz ag sz bytes z x y) s K = yK ag sz bytes z K s (s.ev x) (s.ev y):=id rfl
@[go_sem] theorem TX : WO X .mkmap s K = K (.mp s.H.length) ⟨s.t,s.H ++ [.map [] 0],s.T⟩:=id rfl
@[go_sem] theorem Yc (x : Rd) : WO X (.mlen x) s K = K1 K s ((kS s.H (s.ev x)).map fun es=>.int .i64 (es.length : Int)):=id rfl
@[go_sem] theorem Y5 (ks : Bool × List Ck) (zv : D) (ok : Bool) (m k : Rd) : WO X (.mget ks zv ok m k) s K = K1 K s (if pu zv then sV s.H ks zv ok (s.ev m) (s.ev k) else none):=id rfl
@[go_sem] theorem YE (ks : Bool × List Ck) (m k v : Rd) : WO X (.mput ks m k v) s K = GX ks K s (s.ev m) (s.ev k) (s.ev v):=id rfl
@[go_sem] theorem Yu (ks : Bool × List Ck) (zv : D) (m k : Rd) : WO X (.ment ks zv m k) s K = D6 ks zv K s (s.ev m) (s.ev k):=id rfl
@[go_sem] theorem A1k (m b v : Rd) : WO X (.mst m b v) s K = Ja K s (s.ev m) (s.ev b) (s.ev v):=id rfl
@[go_sem] theorem A1h (ag : Bool) (sz bytes : Nat) (z : List D) (n m : Rd) : WO X (.mkm ag sz bytes z n m) s K = FQ ag sz bytes z K s (s.ev n) (s.ev m):=id rfl
@[go_sem] theorem Zw (x : Rd) : WO X (.s2b x) s K = zX K s (s.ev x):=id rfl
@[go_sem] theorem Z9 (l : List UInt8) : zX K s (.str l) = K (.sl (some s.T.length) (cP l)) ⟨s.t,s.H,s.T ++ [some (l.length,1)]⟩:=id rfl
@[go_sem] theorem A0z (x : Rd) : WO X (.b2m x) s K = K1 K s (MD s.H (s.ev x)):=id rfl
@[go_sem] theorem A0P (x : Rd) : WO X (.b2s x) s K = K1 K s (xX (s.ev x)):=id rfl
@[go_sem] theorem Po : dG false .nils = some []:=id rfl
@[go_sem] theorem SV (t : Option Nat) (xs : List D) : dG false (.sl t xs) = some xs:=id rfl
@[go_sem] theorem RF (l : List UInt8) : dG true (.str l) = some (cP l):=id rfl
@[go_sem] theorem NW (n : Bool) (xs : List D) : dG false (aA n xs) = some xs:=by
 rcases aU n xs with ⟨h,rfl⟩ | h <;> rw [h] <;> rfl
@[go_sem] theorem Oi (H : Hp) (sz : Nat) : dR H false sz .nils = some []:=id rfl
@[go_sem] theorem Ry (H : Hp) (sz : Nat) (t : Option Nat) (xs : List D) : dR H false sz (.sl t xs) = some xs:=id rfl
@[go_sem] theorem MU (H : Hp) (sz : Nat) (n : Bool) (xs : List D) : dR H false sz (aA n xs) = some xs:=by
 rcases aU n xs with ⟨h,rfl⟩ | h <;> rw [h] <;> rfl
theorem Cy (sz bytes : Nat) (ys : List D) : mB sz bytes K s .nils (some ys) = (ys.all (fit sz) = true /\ if ys = [] then K .nils s else (ys.length * bytes <= 2 ^ 47 /\ ys.length < 2 ^ 62 /\ K (.sl (some s.T.length) ys) ⟨s.t,s.H,s.T ++ [some (ys.length,sz)]⟩)):=rfl
@[go_sem] theorem tS (sz bytes : Nat) (y : D) (ys : List D) : mB sz bytes K s .nils (some (y :: ys)) = ((y :: ys).all (fit sz) = true /\ (y :: ys).length * bytes <= 2 ^ 47 /\ (y :: ys).length < 2 ^ 62 /\ K (.sl (some s.T.length) (y :: ys)) ⟨s.t,s.H,s.T ++ [some ((y :: ys).length,sz)]⟩):=by
 rw [Cy,if_neg (by simp)]
@[go_sem] theorem RP (sz bytes : Nat) : mB sz bytes K s .nils (some []) = K .nils s:=by
 rw [Cy,if_pos rfl];simp
@[go_sem] theorem SC : dG false .e0 = some []:=id rfl
theorem pU (sz bytes : Nat) (t : Nat -> D) (H : Hp) (B L : Tk) (n : Nat) (xs ys : List D) : mB sz bytes K ⟨t,H,B ++ L⟩ (.sl (some (B.length + n)) xs) (some ys) =
  (ys.all (fit sz) = true /\ L[n]? = some (some (xs.length,sz)) /\ (xs.length + ys.length) * bytes <= 2 ^ 47 /\ xs.length + ys.length < 2 ^ 62 /\ xs.all (fit sz) = true /\ K (.sl (some (B.length + n)) (xs ++ ys)) ⟨t,H,B ++ L.set n (some (xs.length + ys.length,sz))⟩):=by
 simp only [mB,AK,vK]
theorem CQ (sz bytes : Nat) (t : Nat -> D) (H : Hp) (B L : Tk) (xs ys : List D) : mB sz bytes K ⟨t,H,B ++ L⟩ (.sl (some B.length) xs) (some ys) =
  (ys.all (fit sz) = true /\ L[0]? = some (some (xs.length,sz)) /\ (xs.length + ys.length) * bytes <= 2 ^ 47 /\ xs.length + ys.length < 2 ^ 62 /\ xs.all (fit sz) = true /\ K (.sl (some B.length) (xs ++ ys)) ⟨t,H,B ++ L.set 0 (some (xs.length + ys.length,sz))⟩):=pU sz bytes t H B L 0 xs ys
@[go_sem] theorem Z0 : dZ .e0 = some 0:=id rfl
@[go_sem] theorem Yo (ag : Bool) (z o off n cap : Nat) : dZ (.ms ag z o off n cap) = some n:=id rfl
@[go_sem] theorem UB : D.e0.erase = .sl none []:=by simp [D.erase]
@[go_sem] theorem S8 (o off : Nat) : (D.ptr o off).erase = .ptr o off:=by simp [D.erase]
@[go_sem] theorem TE (ag : Bool) (z o off n cap : Nat) : (D.ms ag z o off n cap).erase = .ms ag z o off n cap:=by simp [D.erase]
@[go_sem] theorem ZE (ag : Bool) (z o off n cap : Nat) : (D.ms ag z o off n cap).okc = true:=id rfl
@[go_sem] theorem YM (o off : Nat) : (D.ptr o off).okc = true:=id rfl
@[go_sem] theorem A0d (f : FuncId) (a b : List D) : (D.fn f a b).okc = true:=id rfl
@[go_sem] theorem ZA : D.e0.okc = true:=id rfl
@[go_sem] theorem X9 (ag : Bool) (z o off n cap : Nat) : (D.ms ag z o off n cap).cells = [.ms ag z o off n cap]:=id rfl
@[go_sem] theorem SM (o off : Nat) : (D.ptr o off).cells = [.ptr o off]:=id rfl
@[go_sem] theorem TV : D.e0.cells = [.e0]:=id rfl
@[go_sem] theorem A15 (sz : Nat) (ag : Bool) (z o off len cap : Nat) (k : IntKind) (n : Int) : ia sz (.ms ag z o off len cap) (.int k n) = if 0 <= n /\ n < len /\ z = sz then some (.ptr o (off + n.toNat * sz)) else none:=id rfl
@[go_sem] theorem Yw (sz len : Nat) (x : D) (k : IntKind) (n : Int) : D2 sz len x (.int k n) = if 0 <= n /\ n < len then fa (n.toNat * sz) x else none:=id rfl
@[go_sem] theorem Y1 (sz len : Nat) (x i : Rd) : WO X (.iarr sz len x i) s K = K1 K s (D2 sz len (s.ev x) (s.ev i)):=id rfl
end
attribute [go_sem_proc] Nat.reduceAdd Nat.reduceSub Nat.reduceMul Nat.reduceEqDiff Nat.reduceLeDiff Nat.reduceLT Int.reduceToNat Int.reduceLE Int.reduceLT Int.reduceEq Int.reduceNe Int.reduceBEq Int.reduceBNe Nat.reduceBEq Nat.reduceBNe reduceCtorEq
attribute [go_sem_proc ↓] reduceIte reduceDIte
attribute [go_sem] List.map_cons List.map_nil List.append_assoc List.cons_append List.nil_append List.append_nil List.length_append List.length_cons List.length_nil List.take_zero List.take_succ_cons List.take_nil List.drop_zero List.drop_succ_cons List.drop_nil Nat.zero_add Nat.add_zero Option.map_some Option.map_none true_and and_true false_and and_false and_self Bool.true_eq_false Bool.false_eq_true Bool.not_true Bool.not_false Bool.not_eq_true' Bool.not_eq_false' Bool.true_and Bool.and_true Bool.false_and Bool.and_false Bool.true_or Bool.or_true Bool.false_or Bool.or_false Bool.bne_true Bool.bne_false Bool.true_bne Bool.false_bne Bool.true_beq Bool.false_beq Bool.not_not decide_true decide_false false_implies true_implies implies_true forall_const List.all_cons List.all_nil beq_self_eq_true bne_self_eq_false Nat.zero_le Nat.le_refl List.getElem?_cons_zero List.getElem?_cons_succ List.isEmpty_nil List.isEmpty_cons Int.cast_ofNat_Int Int.toNat_zero
end GP
namespace GP
open Go
theorem LZ {p : Nat -> Prop} {N : Nat} (hN : ∀ i,p i -> i <= N) : ∀ (k i : Nat),N - i <= k -> p i -> ∃ m,p m /\ ∀ j,p j -> j <= m
 | 0,i,hk,hi=>⟨i,hi,fun j hj=>by have:=hN j hj;omega⟩
 | k + 1,i,hk,hi=>by
  by_cases h : ∃ j,p j /\ i < j
  ·obtain ⟨j,hj,hij⟩:=h
   exact LZ hN k j (by have:=hN j hj;omega) hj
  ·exact ⟨i,hi,fun j hj=>Nat.le_of_not_lt fun hij=>h ⟨j,hj,hij⟩⟩
open Classical in
noncomputable def OM (I : Nat -> S -> Prop) (s : S) : Nat:=if h : ∃ m,I m s /\ ∀ j,I j s -> j <= m then h.choose else 0
theorem bG {X : d8} {c : C} {Q : Ex -> S -> Prop} {s : S} (I : Nat -> S -> Prop) (N : Nat) (h0 : ∃ i,I i s) (hN : ∀ i s,I i s -> i <= N) (step : ∀ i s,I i s -> W X c (m9 (I (i + 1)) Q) s) (hX : uL X) : W X (.loop c) Q s:=by
 rw [QQ]
 have hm : ∀ s,(∃ i,I i s) -> I (OM I s) s /\ ∀ j,I j s -> j <= OM I s:=by
  intro s ⟨i,hi⟩
  have h:=LZ (p:=fun i=>I i s) (fun i h=>hN i s h) (N - i) i (Nat.le_refl _) hi
  unfold OM
  rw [dif_pos h]
  exact h.choose_spec
 refine ⟨fun s=>∃ i,I i s,fun s=>N - OM I s,h0,fun s hs=>?_⟩
 obtain ⟨h1,h2⟩:=hm s hs
 refine fE hX ?_ (step _ s h1)
 intro e s' h
 cases e with
 | normal =>
  simp only [m9] at h ⊢
  obtain ⟨h3,h4⟩:=hm s' ⟨_,h⟩
  have:=h4 _ h
  have:=hN _ _ h3
  exact ⟨⟨_,h⟩,by omega⟩
 | exit i=>exact h
 | ret=>exact h
theorem aI (l : Fs) : uL (XL l):=by
 intro f args H T Q Q' hQ h
 unfold XL at h ⊢
 split at h
 ·exact hQ _ _ _ h
 ·exact h.elim
def elems : D -> List D
 | .sl _ xs=>xs
 | _=>[]
def FF : D -> Bool
 | .nils=>true
 | .sl none _=>true
 | _=>false
mutual
def D.isV : D -> Bool
 | .agg [.int .i64 _,.int .i64 _,.str s,.nils]=>decide (s.length <= 2 ^ 47)
 | .agg [.int .i64 _,.int .i64 _,.str s,.sl none xs]=>decide (s.length <= 2 ^ 47) && decide (xs.length <= 2 ^ 47) && D.isVs xs
 | _=>false
def D.isVs : List D -> Bool
 | []=>true
 | d :: l=>d.isV && D.isVs l
end
theorem gJ : ∀ {l : List D},D.isVs l = true ↔ ∀ d ∈ l,d.isV = true
 | []=>by simp [D.isVs]
 | d :: l=>by simp [D.isVs,gJ (l:=l)]
def mkV (k i : Int) (s : List UInt8) (n : Bool) (l : List D) : D:=.agg [.int .i64 k,.int .i64 i,.str s,aA n l]
theorem bZ {d : D} (h : d.isV = true) : ∃ k i s n l,d = mkV k i s n l /\ s.length <= 2 ^ 47 /\ l.length <= 2 ^ 47 /\ ∀ x ∈ l,x.isV = true:=by
 unfold D.isV at h
 split at h
 ·exact ⟨_,_,_,true,[],rfl,by simpa using h,by simp,by simp⟩
 ·simp only [Bool.and_eq_true,decide_eq_true_eq] at h
  exact ⟨_,_,_,false,_,rfl,h.1.1,h.1.2,gJ.1 h.2⟩
 ·cases h
theorem Kt {k i : Int} {s : List UInt8} {n : Bool} {l : List D} (h1 : s.length <= 2 ^ 47) (h2 : l.length <= 2 ^ 47) (h3 : ∀ x ∈ l,x.isV = true) : (mkV k i s n l).isV = true:=by
 unfold mkV
 rcases aU n l with ⟨e,rfl⟩ | e <;> rw [e]
 ·simp [D.isV,h1]
 ·simp [D.isV,h1,h2,gJ.2 h3]
@[go_sem] theorem aQ (n : Bool) (xs : List D) : elems (aA n xs) = xs:=by
 rcases aU n xs with ⟨h,rfl⟩ | h <;> rw [h] <;> rfl
def vk : D -> Int
 | .agg (.int _ k :: _)=>k
 | _=>0
def vi : D -> Int
 | .agg (_ :: .int _ k :: _)=>k
 | _=>0
def vs : D -> List UInt8
 | .agg (_ :: _ :: .str s :: _)=>s
 | _=>[]
def vl : D -> List D
 | .agg (_ :: _ :: _ :: l :: _)=>elems l
 | _=>[]
@[go_sem] theorem gX (k i : Int) (s : List UInt8) (n : Bool) (l : List D) : vk (mkV k i s n l) = k:=id rfl
@[go_sem] theorem j9 (k i : Int) (s : List UInt8) (n : Bool) (l : List D) : vi (mkV k i s n l) = i:=id rfl
@[go_sem] theorem kL (k i : Int) (s : List UInt8) (n : Bool) (l : List D) : vs (mkV k i s n l) = s:=id rfl
@[go_sem] theorem fO (k i : Int) (s : List UInt8) (n : Bool) (l : List D) : vl (mkV k i s n l) = l:=by simp only [vl,mkV,aQ]
mutual
theorem Kj : ∀ {d : D},d.isV = true -> d.erase = d
 | d,h=>by
  unfold D.isV at h
  split at h
  ·simp [D.erase,D.eraseL]
  ·rename_i s xs
   simp only [Bool.and_eq_true,decide_eq_true_eq] at h
   simp [D.erase,D.eraseL,uB h.2]
  ·cases h
theorem uB : ∀ {l : List D},D.isVs l = true -> D.eraseL l = l
 | [],_=>by simp [D.eraseL]
 | d :: l,h=>by
  simp only [D.isVs,Bool.and_eq_true] at h
  simp [D.eraseL,Kj h.1,uB h.2]
end
end GP
namespace GP
open Go
variable {X : d8} {K : D -> S -> Prop}
def Ext (H B : Hp) : Prop:=∃ L,B = H ++ L
theorem Ext.refl (H : Hp) : Ext H H:=⟨[],by simp⟩
theorem Ext.app {H B : Hp} (h : Ext H B) (X : Hp) : Ext H (B ++ X):=by obtain ⟨L,rfl⟩:=h;exact ⟨L ++ X,by simp⟩
theorem Ext.trans {A B C : Hp} (h : Ext A B) (k : Ext B C) : Ext A C:=by obtain ⟨L,rfl⟩:=h;exact (Ext.refl A).app L |>.elim fun M e=>by obtain ⟨N,rfl⟩:=k;exact ⟨M ++ N,by rw [e];simp⟩
theorem Ext.of (H L : Hp) : Ext H (H ++ L):=⟨L,rfl⟩
theorem Ext.pre {H L B : Hp} (h : Ext (H ++ L) B) : Ext H B:=(Ext.of H L).trans h
theorem Ext.get {H B : Hp} (h : Ext H B) {o : Nat} {x : Ob} (hg : H[o]? = some x) : B[o]? = some x:=by
 obtain ⟨L,rfl⟩:=h
 have : o < H.length:=by
  rcases Nat.lt_or_ge o H.length with h' | h'
  ·exact h'
  ·rw [List.getElem?_eq_none h'] at hg;cases hg
 rw [List.getElem?_append_left this];exact hg
theorem FH (H : Hp) : Ext H H = True:=eq_true (Ext.refl H)
theorem Rh (H L : Hp) : Ext H (H ++ L) = True:=eq_true (Ext.of H L)
theorem Ext.t {H B : Hp} (h : Ext H B) : Ext H B = True:=eq_true h
theorem Ext.ta {H B : Hp} (h : Ext H B) (X : Hp) : Ext H (B ++ X) = True:=eq_true (h.app X)
theorem bN {B : Hp} {o : Nat} {cs : List D} (h : B[o]? = some (.row cs)) (off : Nat) : eO B (.ptr o off) = some (cs.drop off):=by simp [eO,h]
theorem cW {B : Hp} {o : Nat} {cs : List D} (h : B[o]? = some (.row cs)) (L : Hp) (off : Nat) : eO (B ++ L) (.ptr o off) = some (cs.drop off):=bN ((Ext.of B L).get h) off
theorem nR {B : Hp} {o : Nat} {cs : List D} (h : B[o]? = some (.row cs)) (t : Nat -> D) (T : Tk) (n off : Nat) (v : D) : eA n K ⟨t,B,T⟩ (.ptr o off) v = (v.okc = true /\ v.cells.length = n /\ off + n <= cs.length /\ K .top ⟨t,B.set o (.row (cs.take off ++ v.cells ++ cs.drop (off + n))),T⟩):=by simp [eA,h]
theorem Ct {B : Hp} {o : Nat} {cs : List D} (h : B[o]? = some (.row cs)) (L : Hp) (t : Nat -> D) (T : Tk) (n off : Nat) (v : D) : eA n K ⟨t,B ++ L,T⟩ (.ptr o off) v = (v.okc = true /\ v.cells.length = n /\ off + n <= cs.length /\ K .top ⟨t,B.set o (.row (cs.take off ++ v.cells ++ cs.drop (off + n))) ++ L,T⟩):=by
 have hlt : o < B.length:=by
  rcases Nat.lt_or_ge o B.length with h' | h'
  ·exact h'
  ·rw [List.getElem?_eq_none h'] at h;cases h
 rw [nR ((Ext.of B L).get h),List.set_append_left _ _ hlt]
def bQ (T U : Tk) : Prop:=∃ L,U = T ++ L
theorem bQ.refl (T : Tk) : bQ T T:=⟨[],by simp⟩
theorem bQ.app {T U : Tk} (h : bQ T U) (X : Tk) : bQ T (U ++ X):=by obtain ⟨L,rfl⟩:=h;exact ⟨L ++ X,by simp⟩
theorem bQ.of (T L : Tk) : bQ T (T ++ L):=⟨L,rfl⟩
theorem bQ.t {T U : Tk} (h : bQ T U) : bQ T U = True:=eq_true h
theorem bQ.ta {T U : Tk} (h : bQ T U) (X : Tk) : bQ T (U ++ X) = True:=eq_true (h.app X)
theorem b8 {r r0 : D} {H B : Hp} {T U : Tk} (h : Ext H B) (k : bQ T U) : i5 r0 H T r B U = (r.erase = r0):=by
 obtain ⟨L,rfl⟩:=h;obtain ⟨M,rfl⟩:=k;simp [i5]
theorem bL {r r0 : D} {H B : Hp} {T U : Tk} (h : Ext H B) (k : bQ T U) (L : Hp) : i5 r0 H T r (B ++ L) U = (r.erase = r0):=b8 (h.app L) k
end GP
namespace GP
open Go
abbrev FsH:=List (FuncId × (Hp -> List D -> Option D))
def gC : FsH -> Hp -> FuncId -> List D -> Option D
 | [],_,_,_=>none
 | (g,φ) :: l,H,f,a=>if f = g then φ H a else gC l H f a
def cQ (m : FsH) : Prop:=∀ H H' f a r,Hle H H' -> gC m H f a = some r -> gC m H' f a = some r
def XM (l : Fs) (m : FsH) : d8:=fun f args H T Q=>match kF l f (D.eraseL args) with
 | some r=>Q r H T
 | none=>match gC m H f (D.eraseL args) with
  | some r=>Q r H T
  | none=>False
variable {P : Program} [HasG P]
def B1 (P : Program) [HasG P] (f : FuncId) (φ : Hp -> List D -> Option D) : Prop:=∀ H args r,φ H args = some r -> ∀ args',D.eraseL args' = args -> ∀ T (Q : dM),Q r H T -> Snd P f args' H T Q
def OkH (P : Program) [HasG P] (m : FsH) : Prop:=∀ H f args r,gC m H f args = some r -> ∀ args',D.eraseL args' = args -> ∀ T (Q : dM),Q r H T -> Snd P f args' H T Q
theorem OkH.nil : OkH P []:=fun _ _ _ _ h=>by simp [gC] at h
theorem OkH.cons {f : FuncId} {φ : Hp -> List D -> Option D} {m : FsH} (h : B1 P f φ) (k : OkH P m) : OkH P ((f,φ) :: m):=by
 intro H g args r hr
 simp only [gC] at hr
 split at hr
 ·rename_i e;subst e;exact h H args r hr
 ·exact k H g args r hr
theorem cQ.nil : cQ []:=fun _ _ _ _ _ _ h=>by simp [gC] at h
theorem cQ.cons {f : FuncId} {φ : Hp -> List D -> Option D} {m : FsH} (h : ∀ H H' a r,Hle H H' -> φ H a = some r -> φ H' a = some r) (k : cQ m) : cQ ((f,φ) :: m):=by
 intro H H' g a r hl hr
 simp only [gC] at hr ⊢
 split at hr
 ·rename_i e;rw [if_pos e];exact h H H' a r hl hr
 ·rename_i e;rw [if_neg e];exact k H H' g a r hl hr
theorem XM.X {l : Fs} {m : FsH} (k : Ok P l) (k' : OkH P m) : ∀ f args H T Q Q',(∀ r H T,Q r H T -> Q' r H T) -> XM l m f args H T Q -> Snd P f args H T Q':=by
 intro f args H T Q Q' hQ h
 unfold XM at h
 split at h
 ·rename_i r hr
  exact k f _ r hr args rfl H T Q' (hQ _ _ _ h)
 ·split at h
  ·rename_i r hr
   exact k' H f _ r hr args rfl T Q' (hQ _ _ _ h)
  ·exact h.elim
def orK (K : D -> S -> Prop) (s : S) : Option D -> Option D -> Prop
 | some r,_=>K r s
 | none,some r=>K r s
 | none,none=>False
theorem TS (K : D -> S -> Prop) (s : S) (r : D) (o : Option D) : orK K s (some r) o = K r s:=id rfl
theorem Sa (K : D -> S -> Prop) (s : S) (r : D) : orK K s none (some r) = K r s:=id rfl
theorem Qt {l : Fs} {m : FsH} (hm : cQ m) (args : List D) (K : D -> S -> Prop) (s : S) (f : FuncId) (first cap : List D) :
  cT (XM l m) args K s (.fn f first cap) = orK K s (kF l f (D.eraseL (first ++ args ++ cap))) (gC m s.H f (D.eraseL (first ++ args ++ cap))):=by
 simp only [cT,eq_iff_iff]
 constructor
 ·rintro ⟨r,h1,h2⟩
  have:=h1 s.H s.T (fun r' _ _=>r' = r) (fun _ _ h _=>h) rfl
  unfold XM at this
  cases hr : kF l f (D.eraseL (first ++ args ++ cap)) with
  | some r'=>rw [hr] at this;simp only at this;subst this;exact h2
  | none =>
   rw [hr] at this
   cases hr' : gC m s.H f (D.eraseL (first ++ args ++ cap)) with
   | some r'=>rw [hr'] at this;simp only at this;subst this;exact h2
   | none=>rw [hr'] at this;exact this.elim
 ·intro h
  cases hr : kF l f (D.eraseL (first ++ args ++ cap)) with
  | some r =>
   rw [hr] at h
   refine ⟨r,fun H' T' Q' _ hQ=>?_,h⟩
   unfold XM
   rw [hr];exact hQ
  | none =>
   rw [hr] at h
   cases hr' : gC m s.H f (D.eraseL (first ++ args ++ cap)) with
   | none=>rw [hr'] at h;exact h.elim
   | some r =>
    rw [hr'] at h
    refine ⟨r,fun H' T' Q' hl hQ=>?_,h⟩
    unfold XM
    rw [hr]
    simp only
    rw [hm _ _ _ _ _ hl hr']
    exact hQ
theorem Kk (H : Hp) (f : FuncId) (a : List D) : gC [] H f a = none:=id rfl
theorem Hl (g : FuncId) (φ : Hp -> List D -> Option D) (l : FsH) (H : Hp) (f : FuncId) (a : List D) : gC ((g,φ) :: l) H f a = if f = g then φ H a else gC l H f a:=id rfl
end GP
namespace GP
open Go
open Rd O
set_option maxRecDepth 100000
variable {P : Program} [HasG P]
@[go_sem high] theorem YU (sz : Nat) (b : Bool) (xs : List D) (k : IntKind) (i : Nat) : ia sz (aA b xs) (.int k (i : Int)) = iaE sz xs[i]?:=by
 rw [D1,if_pos (by omega)];simp
@[go_sem high] theorem Tg (sz : Nat) (t : Option Nat) (xs : List D) (k : IntKind) (i : Nat) : ia sz (.sl t xs) (.int k (i : Int)) = iaE sz xs[i]?:=by
 rw [Py,if_pos (by omega)];simp
def zM (p : D -> Prop) (d : D) : Prop:=∃ n l,d = aA n l /\ l.length <= 2 ^ 47 /\ ∀ x ∈ l,p x
theorem KH (p : D -> Prop) : zM p .nils:=⟨true,[],rfl,by simp,by simp⟩
theorem bB {l : List D} (h : ∀ x ∈ l,x.erase = x) : D.eraseL l = l:=by
 rw [gE]
 exact (List.map_congr_left h).trans (List.map_id'' (fun _=>rfl) l)
theorem Gr {p : D -> Prop} (hp : ∀ x,p x -> x.erase = x) {d : D} (h : zM p d) : d.erase = d:=by
 obtain ⟨n,l,rfl,_,hx⟩:=h
 rw [bE,bB fun x hl=>hp x (hx x hl)]
theorem QI (a : Int) : IntKind.i64.wrap a = if a % 2 ^ 64 ≥ 2 ^ 63 then a % 2 ^ 64 - 2 ^ 64 else a % 2 ^ 64:=by simp [IntKind.wrap,IntKind.bits,IntKind.signed]
theorem wI {a : Int} (h1 : -(2 ^ 63) <= a) (h2 : a < 2 ^ 63) : IntKind.i64.wrap a = a:=by rw [QI];split <;> omega
theorem y7 (n : Nat) (h : n <= 2 ^ 62) : IntKind.i64.wrap ((n : Int) + 1) = ((n + 1 : Nat) : Int):=by
 rw [wI (by omega) (by omega)];rfl
structure El (ag : Bool) (sz : Nat) (x : D) : Prop where
 erase : x.erase = x
 len : x.cells.length = sz
 ld : ld ag sz (some x.cells) = some x
theorem El.agg {sz : Nat} {x : D} (h1 : x.erase = x) (h2 : x.cells.length = sz) (h3 : D.agg x.cells = x) : El true sz x :=
 ⟨h1,h2,by simp only [GP.ld,if_true];rw [if_pos (by omega),List.take_of_length_le (by omega),h3]⟩
def Ep (p : D -> Bool) (l : List D) : Int:=match l.findIdx? p with
 | some i=>i
 | none=>-1
theorem AU {p : D -> Bool} : ∀ {l : List D} {i : Nat} {x : D},l[i]? = some x -> p x = true -> (∀ (j : Nat) y,j < i -> l[j]? = some y -> p y = false) -> l.findIdx? p = some i
 | a :: l,0,x,h,hp,_=>by simp at h;subst h;simp [List.findIdx?_cons,hp]
 | a :: l,i + 1,x,h,hp,hn=>by
  have h0:=hn 0 a (by omega) rfl
  have:=AU (l:=l) (i:=i) (x:=x) (by simpa using h) hp (fun j y hj hy=>hn (j + 1) y (by omega) (by simpa using hy))
  simp [List.findIdx?_cons,h0,this]
theorem C2 {p : D -> Bool} : ∀ {l : List D},(∀ (j : Nat) y,l[j]? = some y -> p y = false) -> l.findIdx? p = none
 | [],_=>rfl
 | a :: l,h=>by
  have h0:=h 0 a rfl
  have:=C2 (l:=l) (fun j y hy=>h (j + 1) y (by simpa using hy))
  simp [List.findIdx?_cons,h0,this]
def cfC (g : FuncId) : C :=
 (.seq (.reg [⟨(some 4),none,.mv (k (.bool false))⟩])
 (.seq (.reg [⟨(some 5),none,.mv (t 0)⟩,⟨(some 6),none,.mv (t 1)⟩,⟨(some 7),none,.pcall (k (.fn g [] [])) [(t 5),(t 6)]⟩,⟨(some 8),none,.bin .geq (t 7) (k (.int .i64 0))⟩,⟨(some 4),none,.mv (t 8)⟩])
 .ret))
theorem M0 (p : D -> Bool) (l : List D) : decide ((0 : Int) <= Ep p l) = l.any p:=by
 unfold Ep
 cases h : l.findIdx? p with
 | some i =>
  have : l.any p = true:=by
   rw [List.findIdx?_eq_some_iff_getElem] at h
   obtain ⟨h1,h2,_⟩:=h
   exact List.any_eq_true.2 ⟨_,List.getElem_mem h1,h2⟩
  rw [this];simp
 | none =>
  have : l.any p = false:=by
   rw [List.findIdx?_eq_none_iff] at h
   exact List.any_eq_false.2 fun x hx=>by simp [h x hx]
  rw [this];rfl
end GP
namespace GP
open Go
open Rd O
set_option maxRecDepth 100000
variable {P : Program} [HasG P]
mutual
theorem Lf : ∀ {d : D},d.isV = true -> d.cl 0 0 = true
 | d,h=>by
  unfold D.isV at h
  split at h
  ·simp [D.cl,D.clL]
  ·simp only [Bool.and_eq_true] at h
   simp [D.cl,D.clL,J6 h.2]
  ·cases h
theorem J6 : ∀ {l : List D},D.isVs l = true -> D.clL 0 0 l = true
 | [],_=>by simp [D.clL]
 | d :: l,h=>by
  simp only [D.isVs,Bool.and_eq_true] at h
  simp [D.clL,Lf h.1,J6 h.2]
end
def Jo (x : D) : Prop:=∃ w,x = .str w /\ w.length <= 2 ^ 47
def yM : D -> List UInt8
 | .str w=>w
 | _=>[]
theorem Hu {x : D} (h : Jo x) : x.erase = x:=by obtain ⟨w,rfl,_⟩:=h;rfl
def Pb : C :=
 (.seq (.reg [⟨(some 4),none,.mv (k (.int .i64 0))⟩])
 (.seq (.seq (.reg [⟨(some 6),none,.mv (t 0)⟩,⟨(some 7),none,.len (t 6)⟩,⟨(some 8),none,.mv (k (.int .i64 0))⟩])
 (.block 0
 (.loop
 (.seq (.reg [⟨(some 9),none,.bin .lss (t 8) (t 7)⟩])
 (.seq (.cond (t 9)
 .skip
 (.exit 0))
 (.seq (.block 1
 (.seq (.reg [⟨(some 10),none,.mv (t 8)⟩,⟨(some 5),none,.mv (t 10)⟩])
 (.seq (.reg [⟨(some 11),none,.mv (t 1)⟩,⟨(some 12),none,.mv (t 0)⟩,⟨(some 13),none,.mv (t 5)⟩,⟨(some 14),none,.iaddr 1 (t 12) (t 13)⟩,⟨(some 15),none,.load false 1 (t 14)⟩,⟨(some 16),none,.bin .eql (t 11) (t 15)⟩])
 (.cond (t 16)
 (.seq (.reg [⟨(some 17),none,.mv (t 5)⟩,⟨(some 4),none,.mv (t 17)⟩])
 .ret)
 .skip))))
 (.reg [⟨(some 18),none,.bin .add (t 8) (k (.int .i64 1))⟩,⟨(some 8),none,.mv (t 18)⟩])))))))
 (.seq (.reg [⟨(some 4),none,.mv (k (.int .i64 (-1)))⟩])
 .ret)))
open Classical in
noncomputable def uK : List D -> Option D
 | [l,.str w]=>if zM Jo l then some (.int .i64 (Ep (fun x=>w == yM x) (elems l))) else none
 | _=>none
theorem QA {N : FuncId} (hf : Fn P N 19 [.inl 4] Pb) : aO P N uK:=by
 refine aG (l:=[]) .nil hf fun args r h=>?_
 unfold uK at h
 split at h
 ·rename_i l w
  split at h
  ·rename_i hc
   obtain ⟨n,xs,rfl,hl,hx⟩:=hc
   rw [aQ] at h
   injection h with h;subst h
   refine ⟨by simp,by simp [D.cl],fun H T=>?_⟩
   simp +contextual only [Pb,go_sem]
   refine bG (fun i s=>s.t 0 = aA n xs /\ s.t 1 = .str w /\ s.t 6 = aA n xs /\ s.t 7 = .int .i64 xs.length /\ s.t 8 = .int .i64 i /\ s.H = H /\ s.T = T /\ i <= xs.length /\ ∀ (j : Nat) x,j < i -> xs[j]? = some x -> (w == yM x) = false) xs.length ⟨0,by simp [upd,bF]⟩ (fun i s h=>h.2.2.2.2.2.2.2.1) ?_ (aI _)
   rintro i ⟨t,H',T'⟩ ⟨h0,h1,h6,h7,h8,rfl,rfl,hi,hc⟩
   simp only at h0 h1 h6 h7 h8
   by_cases ha : i < xs.length
   ·have d1 : decide ((i : Int) < xs.length) = true:=by simpa using ha
    have e : xs[i]? = some xs[i]:=by simp [ha]
    obtain ⟨v,hv,_⟩:=hx _ (List.getElem_mem ha)
    generalize xs[i] = x at *
    subst hv
    have nx : (w == v) = false -> ∀ (j : Nat) x,j < i + 1 -> xs[j]? = some x -> (w == yM x) = false:=fun hb j y hj hy=>by
     by_cases hji : j = i
     ·subst hji;rw [e] at hy;injection hy with hy;subst hy;exact hb
     ·exact hc j y (by omega) hy
    have hI : (w == v) = true -> Ep (fun x=>w == yM x) xs = i:=fun hb=>by
     unfold Ep
     rw [AU e hb hc]
    cases hb : (w == v) with
    | true =>
     have hI:=hI hb
     simp +contextual only [h0,h1,h6,h7,h8,d1,e,hb,hI,y7 i (by omega),go_sem]
    | false =>
     have nx:=nx hb
     simp +contextual only [h0,h1,h6,h7,h8,d1,e,hb,y7 i (by omega),go_sem]
     exact ⟨by omega,nx⟩
   ·have d1 : decide ((i : Int) < xs.length) = false:=by simpa using ha
    have hI : Ep (fun x=>w == yM x) xs = -1:=by
     unfold Ep
     rw [C2 (fun j y hy=>hc j y (by
      rcases Nat.lt_or_ge j i with h' | h'
      ·exact h'
      ·rw [List.getElem?_eq_none (by omega)] at hy;cases hy) hy)]
    simp +contextual only [h0,h1,h6,h7,h8,d1,hI,go_sem]
  ·cases h
 ·cases h
open Classical in
noncomputable def gR : List D -> Option D
 | [l,.str w]=>if zM Jo l then some (.bool ((elems l).any (fun x=>w == yM x))) else none
 | _=>none
theorem PG {N M : FuncId} (hf : Fn P N 9 [.inl 4] (cfC M)) (hi : aO P M uK) : aO P N gR:=by
 refine aG (l:=[(M,uK)]) (.cons hi .nil) hf fun args r h=>?_
 unfold gR at h
 split at h
 ·rename_i l w
  split at h
  ·rename_i hc
   have p : uK [l,.str w] = some (.int .i64 (Ep (fun x=>w == yM x) (elems l))):=by
    simp only [uK];rw [if_pos hc]
   have a:=M0 (fun x=>w == yM x) (elems l)
   have el:=Gr (fun _=>Hu) hc
   injection h with h;subst h
   refine ⟨by simp,by simp [D.cl],fun H T=>?_⟩
   simp +contextual only [cfC,el,p,a,go_sem]
  ·cases h
 ·cases h
theorem B1.low {f : FuncId} {φ : List D -> Option D} (h : B1 P f (fun _=>φ)) : aO P f φ:=fun args r hr args' he H T Q hQ=>h H args r hr args' he T Q hQ
end GP
namespace GP
open Go
variable {X : d8} {c a b : C} {Q : Ex -> S -> Prop} {s : S}
def unr (X : d8) (c : C) (Q : Ex -> S -> Prop) : Nat -> S -> Prop
 | 0,_=>False
 | n + 1,s=>W X c (m9 (unr X c Q n) Q) s
theorem wK (N : Nat) (h : unr X c Q N s) (hX : uL X) : W X (.loop c) Q s:=by
 refine bG (fun i s=>i <= N /\ unr X c Q (N - i) s) N ⟨0,Nat.zero_le _,h⟩ (fun i s h=>h.1) (fun i s h=>?_) hX
 obtain ⟨h1,h2⟩:=h
 cases hk : N - i with
 | zero=>rw [hk] at h2;exact h2.elim
 | succ m =>
  rw [hk] at h2
  refine fE hX ?_ h2
  intro e s' h
  cases e with
  | normal =>
   have : N - (i + 1) = m:=by omega
   exact ⟨by omega,by rw [this];exact h⟩
  | exit i=>exact h
  | ret=>exact h
theorem wO (n : Nat) : unr X c Q (n + 1) s = W X c (m9 (unr X c Q n) Q) s:=id rfl
end GP
namespace GP
def imp : List Nat:=[49,50,69,70,71,72,73,82,103,104,105,118,119,120,121,122,123,170,202,217,228,236,238,239,240,241,245,247,248,249,1000000]
end GP
namespace GP
open Go
@[reducible] def Hq0 : Hn:=⟨fun f=>imp.contains f,false,fun _=>false,false⟩
@[reducible] def Hq1 : Hn:=⟨fun f=>imp.contains f,true,fun _=>false,false⟩
theorem aJ {P : Program} {f n : Nat} {rs : List (Sum Nat (Nat × Bool × Nat))} {c : C} {F : Func} {code : Code} (h1 : P.funcs[f]? = some F) (h4 : F.ntmps = n) (i : Hn) (h2 : F.body = some code := by exact rfl) (h3 : (F.name == "runtime.NumGoroutine") = false := by kernel_rfl) (h5 : G9 P F.results.toList = some rs := by kernel_rfl) (h6 : jA P i n code = some c := by kernel_rfl) : Fn P f n rs c := ⟨⟨F, code, h1, h2, h3, h4, h5, i, h6⟩⟩
end GP
namespace GP
open Go Go.Proofs
open Rd O
set_option maxRecDepth 100000
def c32 : C :=
 (Rg ([I1 2 (.box (t 0)),I1 3 (.box (t 1)),I1 4 (.mv KF)])
 (.seq (Rg ([If 12 1 2,Il 13 12,If 14 1 3,Il 15 14,I1 16 (.bin .neq (t 13) (t 15)),Im 17 16,Jf 18 17 false 0 2,Jl 19 17 false 18,I3 20 17 (.len (t 19)),Jf 21 17 false 0 3,Jl 22 17 false 21,I3 23 17 (.len (t 22)),I3 24 17 (.bin .neq (t 20) (t 23)),I1 25 (.pick (t 17) KT (t 24)),Im 26 25,Jf 27 26 false 2 2,Jl 28 26 false 27,I3 29 26 (.len (t 28)),Jf 30 26 false 2 3,Jl 31 26 false 30,I3 32 26 (.len (t 31)),I3 33 26 (.bin .neq (t 29) (t 32)),I1 34 (.pick (t 26) KT (t 33))])
 (.cond (t 34)
 (Rg ([I1 4 (.mv KF)])
 .ret)
 .skip))
 (.seq (Rg ([I1 5 (.mv (Ki 0))])
 (.block 0
 (.loop
 (.seq (Rg ([Im 35 5,If 36 0 2,Il 37 36,Iz 38 37,I1 39 (.bin .lss (t 35) (t 38))])
 (.cond (t 39)
 .skip
 (.exit 0)))
 (.seq (.block 1
 (.seq (.draw 0 [(If 42 0 2,[]),(Il 43 42,[]),(Im 44 5,[]),(I1 45 (.iaddr 4 (t 43) (t 44)),[]),(Ia 46 4 45,[]),(If 47 0 3,[]),(Il 48 47,[]),(Im 49 5,[]),(I1 50 (.iaddr 4 (t 48) (t 49)),[]),(Ia 51 4 50,[]),(I1 52 (.eqa [.str,.str,.int,.bool] true (t 46) (t 51)),[])])
 (.cond (t 52)
 (Rg ([I1 4 (.mv KF)])
 .ret)
 .skip)))
 (.reg [Im 40 5,I1 41 (.bin .add (t 40) (Ki 1)),Im 5 41]))))))
 (.seq (Rg ([I1 6 (.mv (Ki 0))])
 (.block 2
 (.loop
 (.seq (Rg ([Im 53 6,If 54 2 2,Il 55 54,Iz 56 55,I1 57 (.bin .lss (t 53) (t 56))])
 (.cond (t 57)
 .skip
 (.exit 2)))
 (.seq (.block 3
 (.seq (.draw 2 [(If 60 2 2,[]),(Il 61 60,[]),(Im 62 6,[]),(I1 63 (.iaddr 13 (t 61) (t 62)),[]),(Ia 64 13 63,[]),(If 65 2 3,[]),(Il 66 65,[]),(Im 67 6,[]),(I1 68 (.iaddr 13 (t 66) (t 67)),[]),(Ia 69 13 68,[]),(I1 7 (.rawAt 2 [(.str []),(.str []),(.str []),(.bool false),(.str []),(.int .i64 0),(.int .i64 0),(.str []),.nils,(.str []),(.str []),.nils,.nils]),[]),(I1 8 (.rawAt 1 [(.str []),(.str []),(.str []),(.bool false),(.str []),(.int .i64 0),(.int .i64 0),(.str []),.nils,(.str []),(.str []),.nils,.nils]),[]),(I4 (.fillAt 2 13 (t 7) (t 64)),[]),(I4 (.fillAt 1 13 (t 8) (t 69)),[])])
 (.seq (Rg ([If 70 0 7,Il 71 70,If 72 0 8,Il 73 72,I1 74 (.bin .neq (t 71) (t 73)),Im 75 74,Jf 76 75 false 1 7,Jl 77 75 false 76,Jf 78 75 false 1 8,Jl 79 75 false 78,I3 80 75 (.bin .neq (t 77) (t 79)),I1 81 (.pick (t 75) KT (t 80)),Im 82 81,Jf 83 82 false 2 7,Jl 84 82 false 83,Jf 85 82 false 2 8,Jl 86 82 false 85,I3 87 82 (.bin .neq (t 84) (t 86)),I1 88 (.pick (t 82) KT (t 87)),Im 89 88,Jf 90 89 false 3 7,Jl 91 89 false 90,Jf 92 89 false 3 8,Jl 93 89 false 92,I3 94 89 (.eq1 .bool true (t 91) (t 93)),I1 95 (.pick (t 89) KT (t 94)),Im 96 95,Jf 97 96 false 4 7,I3 98 96 (.load true 8 (t 97)),Jf 99 96 false 4 8,I3 100 96 (.load true 8 (t 99)),I3 101 96 (.pcall (Kf 20) [(t 98),(t 100)]),I3 102 96 (.un .not (t 101)),I1 103 (.pick (t 96) KT (t 102)),Im 104 103,Jf 105 104 false 12 7,Jl 106 104 false 105,I3 107 104 (.len (t 106)),Jf 108 104 false 12 8,Jl 109 104 false 108,I3 110 104 (.len (t 109)),I3 111 104 (.bin .neq (t 107) (t 110)),I1 112 (.pick (t 104) KT (t 111))])
 (.cond (t 112)
 (Rg ([I1 4 (.mv KF)])
 .ret)
 .skip))
 (Rg ([I1 9 (.mv (Ki 0))])
 (.block 4
 (.loop
 (.seq (Rg ([Im 113 9,If 114 12 7,Il 115 114,Iz 116 115,I1 117 (.bin .lss (t 113) (t 116))])
 (.cond (t 117)
 .skip
 (.exit 4)))
 (.seq (.block 5
 (.seq (.draw 2 [(If 120 12 7,[]),(Il 121 120,[]),(Im 122 9,[]),(I1 123 (.iaddr 13 (t 121) (t 122)),[]),(Ia 124 13 123,[]),(If 125 12 8,[]),(Il 126 125,[]),(Im 127 9,[]),(I1 128 (.iaddr 13 (t 126) (t 127)),[]),(Ia 129 13 128,[]),(I1 10 (.rawAt 2 [(.bool false),(.str []),(.bool false),(.str []),(.int .i64 0),(.int .i64 0),(.str []),.nils,(.str []),(.str []),.nils,.nils,.nils]),[]),(I1 11 (.rawAt 1 [(.bool false),(.str []),(.bool false),(.str []),(.int .i64 0),(.int .i64 0),(.str []),.nils,(.str []),(.str []),.nils,.nils,.nils]),[]),(I4 (.fillAt 2 13 (t 10) (t 124)),[]),(I4 (.fillAt 1 13 (t 11) (t 129)),[])])
 (Rg ([If 130 0 10,Il 131 130,If 132 0 11,Il 133 132,I1 134 (.eq1 .bool true (t 131) (t 133)),Im 135 134,Jf 136 135 false 1 10,Jl 137 135 false 136,Jf 138 135 false 1 11,Jl 139 135 false 138,I3 140 135 (.bin .neq (t 137) (t 139)),I1 141 (.pick (t 135) KT (t 140)),Im 142 141,Jf 143 142 false 2 10,Jl 144 142 false 143,Jf 145 142 false 2 11,Jl 146 142 false 145,I3 147 142 (.eq1 .bool true (t 144) (t 146)),I1 148 (.pick (t 142) KT (t 147)),Im 149 148,Jf 150 149 false 3 10,I3 151 149 (.load true 8 (t 150)),Jf 152 149 false 3 11,I3 153 149 (.load true 8 (t 152)),I3 154 149 (.pcall (Kf 20) [(t 151),(t 153)]),I3 155 149 (.un .not (t 154)),I1 156 (.pick (t 149) KT (t 155)),Im 157 156,Jf 158 157 false 11 10,Jl 159 157 false 158,Jf 160 157 false 11 11,Jl 161 157 false 160,I3 162 157 (.pcall (Kf 74) [(t 159),(t 161)]),I3 163 157 (.un .not (t 162)),I1 164 (.pick (t 157) KT (t 163)),Im 165 164,Jf 166 165 false 12 10,Jl 167 165 false 166,Jf 168 165 false 12 11,Jl 169 165 false 168,I3 170 165 (.pcall (Kf 74) [(t 167),(t 169)]),I3 171 165 (.un .not (t 170)),I1 172 (.pick (t 165) KT (t 171))])
 (.cond (t 172)
 (Rg ([I1 4 (.mv KF)])
 .ret)
 .skip))))
 (.reg [Im 118 9,I1 119 (.bin .add (t 118) (Ki 1)),Im 9 119])))))))))
 (.reg [Im 58 6,I1 59 (.bin .add (t 58) (Ki 1)),Im 6 59]))))))
 (Rg ([I1 4 (.mv KT)])
 .ret)))))
theorem A1B : Fn Tryz.prog 32 173 [.inl 4] c32:=aJ Tryz.func32 Tryz.ntmps32 Hq0
def c43 : C :=
 (Rg ([I1 0 (.mv KF)])
 (Rg ([I1 4 (.build [(.str []),(.int .i64 0),(.int .i64 0),(.str []),.nils,(.str []),(.str []),.nils] [(0,1,(Ks ([110,111,119])))]),Ip 5 97 [KN,(t 4)],Im 3 5,Ie 6 0 3,Ie 7 1 3,Im 1 6,Im 2 7])
 (Rg ([Im 8 2,I1 9 (.bin .eql (t 8) (Ki 0)),Im 10 9,Jm 11 10 true 1,I2 12 10 (.bin .eql (t 11) (Ki 4)),I1 13 (.pick (t 10) (t 12) KF),Im 14 13,I2 15 14 (.pcall (Kf 98) []),I2 16 14 (.len (t 15)),I2 17 14 (.bin .eql (t 16) (Ki 6)),I1 18 (.pick (t 14) (t 17) KF),Im 0 18])
 .ret)))
theorem A02 : Fn Tryz.prog 43 19 [.inl 0] c43:=aJ Tryz.func43 Tryz.ntmps43 Hq0
def c73 : C :=
 (Rg ([I1 2 (.alloc [(.str []),(.str []),(.str []),(.bool false),(.str []),(.int .i64 0),(.int .i64 0),(.str []),.nils,(.str []),(.str []),.nils,.nils])])
 (Rg ([Im 4 0,In 5 4,If 6 0 5,Ic 7 121 [(t 6)],I1 8 (.build [(.str []),(.str []),(.str []),(.bool false),(.str []),(.int .i64 0),(.int .i64 0),(.str []),.nils,(.str []),(.str []),.nils,.nils] [(0,1,(t 7))]),I1 3 (.alloc [(.str []),(.str []),(.str []),(.bool false),(.str []),(.int .i64 0),(.int .i64 0),(.str []),.nils,(.str []),(.str []),.nils,.nils]),Is 13 3 8])
 (Rg ([Im 9 0,In 10 9,If 11 0 10,Ic 12 71 [(t 11),(Ks ([98,121]))]])
 (Rg ([Im 13 0,In 14 13,If 15 0 14,Ic 16 121 [(t 15)],If 17 1 3,Is 1 17 16])
 (Rg ([Im 18 0,In 19 18,If 20 0 19,Ic 21 71 [(t 20),(Ks ([117,115,101]))]])
 (Rg ([Im 22 0,Ic 23 72 [(t 22)],If 24 2 3,Is 1 24 23])
 (Rg ([Im 25 0,In 26 25,If 27 0 26,Ic 28 71 [(t 27),(Ks ([123]))]])
 (.seq (Rg ([Im 29 0,In 30 29,If 31 0 30,Ic 32 69 [(t 31),(Ks ([102,111,114]))],If 33 3 3,Is 1 33 32])
 (Rg ([If 34 3 3,Il 35 34])
 (.cond (t 35)
 (Rg ([Im 36 0,Ic 37 122 [(t 36)],If 38 4 3,Is 8 38 37])
 (.reg [Im 39 0,In 40 39,If 41 0 40,Ic 42 71 [(t 41),(Ks ([59]))]]))
 .skip)))
 (.seq (.block 0
 (.loop
 (.seq (Rg ([Im 43 0,In 44 43,If 45 0 44,If 46 2 45,Il 47 46,I1 48 (.bin .eql (t 47) (Ki 0)),Im 49 48,Jm 50 49 true 0,I2 51 49 (.nilc (t 50)),Jf 52 49 true 0 51,I2 53 49 (.call (Kf 69) [(t 52),(Ks ([125]))]),I2 54 49 (.un .not (t 53)),I1 55 (.pick (t 49) (t 54) KF)])
 (.cond (t 55)
 .skip
 (.exit 0)))
 (.block 1
 (.draw 0 [(If 56 12 3,[]),(Il 57 56,[]),(Im 58 0,[]),(Ic 59 123 [(t 58)],[Il 57 56]),(I1 60 (.bslq 13 [(t 59)]),[]),(I1 61 (.app false 13 208 (t 57) (t 60)),[]),(If 62 12 3,[]),(Is 1 62 61,[])])))))
 (Rg ([Ia 63 13 3,Is 13 2 63])
 .ret))))))))))
theorem ZG : Fn Tryz.prog 73 64 [.inr (2,true,13)] c73:=aJ Tryz.func73 Tryz.ntmps73 Hq0
def FT : C :=
 (Rg ([I1 2 (.box (t 0)),I1 4 (.mv KF)])
 (.seq (Rg ([If 5 0 2,Il 6 5,I1 7 (.bin .eql (t 6) (Ki 2))])
 (.cond (t 7)
 (Rg ([If 8 1 2,Il 9 8,I1 10 (.bin .geq (t 9) (Ki 0)),Im 11 10,Jm 12 11 false 1,Jm 13 11 false 12,Jf 14 13 true 1 2,Jl 15 13 true 14,I2 16 13 (.bin .gtr (t 15) (k (.int .i64 (-9223372036854775808)))),I3 17 11 (.pick (t 13) (t 16) KF),I1 18 (.pick (t 11) KT (t 17)),Im 4 18])
 .ret)
 .skip))
 (Rg ([If 19 0 2,Il 20 19,I1 21 (.bin .eql (t 20) (Ki 1)),Im 22 21,Jf 23 22 false 0 2,Jl 24 22 false 23,I3 25 22 (.bin .eql (t 24) (Ki 4)),I1 26 (.pick (t 22) KT (t 25)),Im 27 26,Jf 28 27 false 0 2,Jl 29 27 false 28,I3 30 27 (.bin .eql (t 29) (Ki 3)),Jm 31 27 false 30,Jf 32 31 true 2 2,Jl 33 31 true 32,I2 34 31 (.build [(.int .i64 0),(.str []),(.int .i64 0)] [(0,1,(Ki 3)),(1,1,(t 33))]),I2 35 31 (.pcall (Kf 57) [(t 34)]),I3 36 27 (.pick (t 31) (t 35) KF),I1 37 (.pick (t 27) KT (t 36)),Im 4 37])
 .ret)))
theorem Sh : Fn Tryz.prog 108 38 [.inl 4] FT:=aJ Tryz.func108 Tryz.ntmps108 Hq0
def Ul : C :=
 (Rg ([I1 4 (.mv (Ki 0))])
 (Rg ([Im 5 0,Im 6 1,Ip 7 176 [(t 5),(t 6)],Im 4 7])
 .ret))
theorem Uo : Fn Tryz.prog 115 8 [.inl 4] Ul:=aJ Tryz.func115 Tryz.ntmps115 Hq0
def Sb : C :=
 (Rg ([I1 4 (.mv (Ks ([])))])
 (.seq (Rg ([Im 7 1,Iz 8 7,I1 9 (.mv (Ki 0))])
 (.block 0
 (.loop
 (Rg ([I1 10 (.bin .lss (t 9) (t 8))])
 (.seq (.cond (t 10)
 .skip
 (.exit 0))
 (.seq (.block 1
 (Rg ([I1 11 (.iaddr 1 (t 7) (t 9)),Il 12 11,Im 6 12])
 (Rg ([Im 13 0,Im 14 6,Ic 15 69 [(t 13),(t 14)]])
 (.cond (t 15)
 (Rg ([Im 16 6,Im 4 16])
 .ret)
 .skip))))
 (.reg [I1 17 (.bin .add (t 9) (Ki 1)),Im 9 17])))))))
 (Rg ([Im 18 0,Im 19 0,In 20 19,If 21 1 20,Il 22 21,Ic 23 105 [(t 18),(t 22),(Ki 2)]])
 (Rg ([I1 4 (.mv (Ks ([])))])
 .ret))))
theorem Xh : Fn Tryz.prog 119 24 [.inl 4] Sb:=aJ Tryz.func119 Tryz.ntmps119 Hq0
def Ua : C :=
 (Rg ([I1 4 (.box (t 1)),I1 5 (.box (t 2)),I1 6 (.alloc [(.str []),(.int .i64 0),(.int .i64 0),(.str []),.nils,(.str []),(.str []),.nils])])
 (Rg ([Im 7 0,Ia 8 8 4,Ia 9 8 5,I1 10 (.bsl 8 [(t 8),(t 9)]),I1 11 (.build [(.str []),(.int .i64 0),(.int .i64 0),(.str []),.nils,(.str []),(.str []),.nils] [(0,1,(t 7)),(7,1,(t 10))]),Is 8 6 11])
 .ret))
theorem V9 : Fn Tryz.prog 169 12 [.inr (6,true,8)] Ua:=aJ Tryz.func169 Tryz.ntmps169 Hq0
def NO : C :=
 (Rg ([I1 2 (.alloc [(.int .i64 0),(.str []),(.int .i64 0)])])
 (.seq (.seq (.draw 0 [(Im 3 0,[]),(In 4 3,[]),(If 5 2 4,[]),(Il 6 5,[]),(I1 7 (.bin .neq (t 6) (Ki 0)),[]),(Im 8 7,[]),(Jm 9 8 false 0,[]),(I3 10 8 (.nilc (t 9)),[]),(Jf 11 8 false 1 10,[]),(Jl 12 8 false 11,[]),(Jm 13 8 false 0,[]),(I3 14 8 (.nilc (t 13)),[]),(Jf 15 8 false 0 14,[]),(Jl 16 8 false 15,[]),(I3 17 8 (.len (t 16)),[]),(I3 18 8 (.bin .geq (t 12) (t 17)),[]),(I1 19 (.pick (t 8) KT (t 18)),[]),(Im 20 19,[]),(Jm 21 20 false 0,[]),(I3 22 20 (.nilc (t 21)),[]),(Jf 23 20 false 0 22,[]),(Jl 24 20 false 23,[]),(Jm 25 20 false 0,[]),(I3 26 20 (.nilc (t 25)),[]),(Jf 27 20 false 1 26,[]),(Jl 28 20 false 27,[]),(I3 29 20 (.iaddr 3 (t 24) (t 28)),[]),(I3 30 20 (.load true 3 (t 29)),[]),(I3 31 20 (.pcall (Kf 166) [(t 30)]),[]),(I3 32 20 (.un .not (t 31)),[]),(I1 33 (.pick (t 20) KT (t 32)),[])])
 (.cond (t 33)
 (Rg ([I1 34 (.build [(.int .i64 0),(.str []),(.int .i64 0)] []),Is 3 2 34])
 .ret)
 .skip))
 (.seq (.draw 0 [(Im 35 0,[]),(In 36 35,[]),(If 37 0 36,[]),(Il 38 37,[]),(Im 39 0,[]),(In 40 39,[]),(If 41 1 40,[]),(Il 42 41,[]),(I1 43 (.iaddr 3 (t 38) (t 42)),[]),(Ia 44 3 43,[]),(Is 3 2 44,[])])
 .ret)))
theorem Td : Fn Tryz.prog 177 45 [.inr (2,true,3)] NO:=aJ Tryz.func177 Tryz.ntmps177 Hq0
def Vm : C :=
 (Rg ([I1 6 (.mv (Ki 0))])
 (.seq (Rg ([Im 9 0,Iz 10 9,I1 11 (.mv (Ki 0))])
 (.block 0
 (.loop
 (Rg ([I1 12 (.bin .lss (t 11) (t 10))])
 (.seq (.cond (t 12)
 .skip
 (.exit 0))
 (.seq (.block 1
 (Rg ([I1 13 (.iaddr 4 (t 9) (t 11)),Ia 14 4 13,I1 8 (.alloc [(.str []),(.str []),(.int .i64 0),(.bool false)]),Is 4 8 14])
 (Rg ([If 15 0 8,Il 16 15,Im 17 1,I1 18 (.bin .eql (t 16) (t 17)),Im 19 18,Jf 20 19 true 1 8,Jl 21 19 true 20,Jm 22 19 true 2,I2 23 19 (.bin .eql (t 21) (t 22)),I1 24 (.pick (t 19) (t 23) KF)])
 (.cond (t 24)
 (.seq (Rg ([If 25 3 8,Il 26 25])
 (.cond (t 26)
 (Rg ([If 27 2 8,Il 28 27,I1 29 (.bin .add (Ki 10) (t 28)),Im 6 29])
 .ret)
 .skip))
 (Rg ([If 30 2 8,Il 31 30,Im 6 31])
 .ret))
 .skip))))
 (.reg [I1 32 (.bin .add (t 11) (Ki 1)),Im 11 32])))))))
 (Rg ([I1 6 (.mv (Ki 0))])
 .ret)))
theorem TT : Fn Tryz.prog 197 33 [.inl 6] Vm:=aJ Tryz.func197 Tryz.ntmps197 Hq0
def Wf : C :=
 (Rg ([I1 2 (.mv KF)])
 (Rg ([Im 3 0,I1 4 (.bin .geq (t 3) (k (.int .u8 32))),Im 5 4,Jm 6 5 true 0,I2 7 5 (.bin .leq (t 6) (k (.int .u8 126))),I1 8 (.pick (t 5) (t 7) KF),Im 2 8])
 .ret))
theorem Ui : Fn Tryz.prog 200 9 [.inl 2] Wf:=aJ Tryz.func200 Tryz.ntmps200 Hq0
def To : C :=
 (Rg ([I1 2 (.alloc [(.str []),(.int .i64 0),(.int .i64 0),(.str []),.nils,(.str []),(.str []),.nils])])
 (Rg ([Im 3 0,Im 4 0,I1 5 (.mkfn 236 [(t 4)] []),I1 6 (.bsl 1 [(Ks ([42]))]),Ic 7 103 [(t 3),(t 5),(t 6)],Is 8 2 7])
 .ret))
theorem V8 : Fn Tryz.prog 228 8 [.inr (2,true,8)] To:=aJ Tryz.func228 Tryz.ntmps228 Hq0
def U8 : C :=
 (Rg ([I1 2 (.alloc [(.str []),(.int .i64 0),(.int .i64 0),(.str []),.nils,(.str []),(.str []),.nils])])
 (Rg ([Im 4 0,Ic 5 71 [(t 4),(Ks ([40]))]])
 (Rg ([Im 6 0,Ic 7 49 [(t 6)],I1 3 (.alloc [(.str []),(.int .i64 0),(.int .i64 0),(.str []),.nils,(.str []),(.str []),.nils]),Is 8 3 7])
 (Rg ([Im 8 0,Ic 9 71 [(t 8),(Ks ([41]))]])
 (Rg ([Ia 10 8 3,Is 8 2 10])
 .ret)))))
theorem X2 : Fn Tryz.prog 240 11 [.inr (2,true,8)] U8:=aJ Tryz.func240 Tryz.ntmps240 Hq0
def Tf : C :=
 (Rg ([I1 4 (.alloc [(.str []),(.int .i64 0),(.int .i64 0),(.str []),.nils,(.str []),(.str []),.nils])])
 (Rg ([Im 8 0,Ic 9 245 [(t 8)],I1 10 (.bsl 4 [(t 9)]),Im 5 10])
 (.seq (.block 0
 (.loop
 (.seq (Rg ([Im 11 0,Ic 12 69 [(t 11),(Ks ([44]))]])
 (.cond (t 12)
 .skip
 (.exit 0)))
 (.block 1
 (.reg [Im 13 5,Im 14 0,Ic 15 245 [(t 14)],I1 16 (.bsl 4 [(t 15)]),I1 17 (.app false 4 56 (t 13) (t 16)),Im 5 17])))))
 (Rg ([Im 18 0,Ic 19 71 [(t 18),(Ks ([93]))]])
 (.seq (Rg ([Im 20 0,In 21 20,If 22 2 21,Il 23 22,I1 24 (.bin .neq (t 23) (Ki 0))])
 (.cond (t 24)
 (Rg ([I1 25 (.build [(.str []),(.int .i64 0),(.int .i64 0),(.str []),.nils,(.str []),(.str []),.nils] []),Is 8 4 25])
 .ret)
 .skip))
 (Rg ([Im 27 5,Ip 28 246 [(t 27)],Im 26 28,Ie 29 0 26,Ie 30 1 26,I1 6 (.alloc [(.int .i64 0),(.int .i64 0),(.str []),.nils]),Is 4 6 29,Im 7 30])
 (.seq (Rg ([Im 31 7,I1 32 (.bin .neq (t 31) (Ki 0))])
 (.cond (t 32)
 (.reg [Im 33 0,Im 34 1,Ic 35 105 [(t 33),(t 34),(Ki 2)]])
 .skip))
 (Rg ([Ia 36 4 6,I1 37 (.build [(.str []),(.int .i64 0),(.int .i64 0),(.str []),.nils,(.str []),(.str []),.nils] [(0,1,(Ks ([118,97,108,117,101]))),(1,4,(t 36))]),Is 8 4 37])
 .ret))))))))
theorem Tz : Fn Tryz.prog 241 38 [.inr (4,true,8)] Tf:=aJ Tryz.func241 Tryz.ntmps241 Hq0
def Uc : C :=
 (Rg ([I1 2 (.alloc [(.int .i64 0),(.int .i64 0),(.str []),.nils])])
 (Rg ([Im 3 0,Im 4 0,I1 5 (.lens (t 4)),I1 6 (.mn (t 5) (Ki 64)),I1 7 (.subs (t 3) none (some (t 6))),I1 8 (.build [(.int .i64 0),(.int .i64 0),(.str []),.nils] [(0,1,(Ki 3)),(2,1,(t 7))]),Is 4 2 8])
 .ret))
theorem Wi : Fn Tryz.prog 243 9 [.inr (2,true,4)] Uc:=aJ Tryz.func243 Tryz.ntmps243 Hq0
def Nc : C :=
 (Rg ([I1 4 (.mv KN)])
 (.seq (Rg ([Im 8 0,Iz 9 8,I1 10 (.bin .lss (t 9) (Ki 2))])
 (.cond (t 10)
 (Rg ([Im 11 0,Im 4 11])
 .ret)
 .skip))
 (.seq (Rg ([I1 5 (.mv (Ki 1))])
 (.block 0
 (.loop
 (.seq (Rg ([Im 12 5,Im 13 0,Iz 14 13,I1 15 (.bin .lss (t 12) (t 14))])
 (.cond (t 15)
 .skip
 (.exit 0)))
 (.seq (.block 1
 (.seq (.draw 0 [(Im 18 1,[]),(Im 19 0,[]),(Im 20 5,[]),(I1 21 (.iaddr 4 (t 19) (t 20)),[]),(Ia 22 4 21,[]),(Im 23 0,[]),(Im 24 5,[]),(I1 25 (.bin .sub (t 24) (Ki 1)),[]),(I1 26 (.iaddr 4 (t 23) (t 25)),[]),(Ia 27 4 26,[]),(I1 28 (.call (t 18) [(t 22),(t 27)]),[])])
 (.cond (t 28)
 (Rg ([Im 29 0,Im 30 5,I1 31 (.sls 4 (t 29) (some (t 30)) none),Im 6 31])
 (.seq (Rg ([I1 7 (.mv (Ki 1))])
 (.block 2
 (.loop
 (.seq (Rg ([Im 32 7,Im 33 6,Iz 34 33,I1 35 (.bin .lss (t 32) (t 34))])
 (.cond (t 35)
 .skip
 (.exit 2)))
 (.seq (.block 3
 (.seq (.draw 0 [(Im 38 1,[]),(Im 39 6,[]),(Im 40 7,[]),(I1 41 (.iaddr 4 (t 39) (t 40)),[]),(Ia 42 4 41,[]),(Im 43 6,[]),(Im 44 7,[]),(I1 45 (.bin .sub (t 44) (Ki 1)),[]),(I1 46 (.iaddr 4 (t 43) (t 45)),[]),(Ia 47 4 46,[]),(I1 48 (.call (t 38) [(t 42),(t 47)]),[]),(I1 49 (.un .not (t 48)),[])])
 (.cond (t 49)
 (Rg ([Im 50 0,Im 51 5,Im 52 6,Im 53 7,I1 54 (.iaddr 4 (t 52) (t 53)),Ia 55 4 54,I1 56 (.iaddr 4 (t 50) (t 51)),Is 4 56 55])
 (.reg [Im 57 5,I1 58 (.bin .add (t 57) (Ki 1)),Im 5 58]))
 .skip)))
 (.reg [Im 36 7,I1 37 (.bin .add (t 36) (Ki 1)),Im 7 37]))))))
 (Rg ([Im 59 0,Im 60 5,I1 61 (.sls 4 (t 59) (some (t 60)) none),I4 (.clr [(.int .i64 0),(.int .i64 0),(.str []),.nils] (t 61))])
 (Rg ([Im 62 0,Im 63 5,I1 64 (.sls 4 (t 62) none (some (t 63))),Im 4 64])
 .ret))))
 .skip)))
 (.reg [Im 16 5,I1 17 (.bin .add (t 16) (Ki 1)),Im 5 17]))))))
 (Rg ([Im 65 0,Im 4 65])
 .ret))))
theorem Q3 : Fn Tryz.prog 249 66 [.inl 4] Nc:=aJ Tryz.func249 Tryz.ntmps249 Hq1
end GP
namespace GP
open Go
inductive Frz : D -> Hp -> D -> Hp -> Prop where
 | refl (r : D) (H : Hp) : Frz r H r H
 | step {r r2 : D} {H H2 : Hp} (o : Nat) (cs : List D) : H[o]? = some (.row cs) -> Frz (r.fz o cs) (H.set o .dead) r2 H2 -> Frz r H r2 H2
section
variable {P : Program}
theorem bJ.frz {c : Cx} {w : World} {Q : dM} {e : Ending} {w' : World}
  (h : bJ c w (fun r H' T'=>∃ r2 H2,Frz r H' r2 H2 /\ Q r2 H2 T') e w') : bJ c w Q e w':=by
 obtain ⟨v,rfl,r,H',T',c',⟨r2,H2,hf,hq⟩,hrep,hinv,hle,hT',hbel⟩:=h
 suffices ∀ {r H' r2 H2},Frz r H' r2 H2 -> ∀ c' : Cx,Q r2 H2 T' -> Rep c' r v -> Inv c' w' H' -> c.le c' -> c'.T = T' -> bJ c w Q (.returned v) w' from this hf c' hq hrep hinv hle hT'
 clear hf hq hrep hinv hle hT'
 intro r H' r2 H2 hf
 induction hf with
 | refl r H=>intro c' hq hrep hinv hle hT';exact ⟨v,rfl,r,H,T',c',hq,hrep,hinv,hle,hT',hbel⟩
 | step o cs ho _ ih =>
  intro c' hq hrep hinv hle hT'
  obtain ⟨vs,hv,hcell⟩:=hinv.row_at ho
  have hM:=(hinv.own o _ ho rfl).2.2.2
  exact ih (c'.fz o vs) hq (hrep.fz hv hM) (hinv.fz ho hcell) (hle.trans (Ik hM)) hT'
def Gs (x y : Ob) : Prop:=x = y ∨ ∃ cs,x = .row cs /\ y = .row (D.eraseL cs)
def Az (Hm H1 : Hp) : Prop:=Hm.length = H1.length /\ ∀ (o : Nat) x y,Hm[o]? = some x -> H1[o]? = some y -> Gs x y
theorem Az.refl (H : Hp) : Az H H:=⟨rfl,fun o x y h h'=>by rw [h] at h';injection h' with h';exact .inl h'⟩
theorem mG {x y : Ob} (h : Gs x y) : x.live = y.live:=by
 rcases h with rfl | ⟨cs,rfl,rfl⟩ <;> rfl
def Crs (a b : D) : Prop:=∀ c v,Rep c a v -> Rep c b v
theorem Crs.refl (a : D) : Crs a a:=fun _ _ h=>h
theorem Crs.erase {a b : D} (h : a.erase = b) : Crs a b:=fun _ _ hr=>h ▸ hr.erase
theorem Crs.trans {a b d : D} (h : Crs a b) (k : Crs b d) : Crs a d:=fun c v hr=>k c v (h c v hr)
def dB (r0 : D) (H1 : Hp) (T : Tk) : dM:=fun r H' T'=>∃ r2 H2,Frz r H' r2 H2 /\ Crs r2 r0 /\ (∃ Hm L,H2 = Hm ++ L /\ Az Hm H1) /\ ∃ U,T' = T ++ U
def mV (H H1 : Hp) (n : Nat) : Prop:=H.length <= H1.length /\ ∀ (o : Nat) x cs,H1[o]? = some x -> x.cells? = some cs -> H[o]? = some x ∨ D.clL H1.length n cs = true
theorem bJ.forgetE {c : Cx} {w : World} {H H1 : Hp} {T : Tk} {Q : dM} (hi : Inv c w H) (hT : c.T = T) {r0 : D} (hcl : r0.cl H1.length T.length = true) (hC : mV H H1 T.length) (hQ : Q r0 H1 T) {e : Ending} {w' : World}
  (h : bJ c w (dB r0 H1 T) e w') : bJ c w Q e w':=by
 have h:=bJ.frz (Q:=fun r2 H2 T'=>Crs r2 r0 /\ (∃ Hm L,H2 = Hm ++ L /\ Az Hm H1) /\ ∃ U,T' = T ++ U) h
 obtain ⟨v,rfl,r,H',T',c',⟨hr,⟨Hm,L,rfl,hsl,hs⟩,⟨U,rfl⟩⟩,hrep,hinv,hle,hT',hbel⟩:=h
 have move : ∀ {d : D} {v : Value},Rep c' d v -> d.cl H1.length T.length = true -> Rep { c' with bd:=fun o=>c'.bd o && decide (o < H1.length),T:=T } d v:=fun {d v} hr hd =>
  hr.move (n:=H1.length) (m:=T.length) (c':={ c' with bd:=fun o=>c'.bd o && decide (o < H1.length),T:=T }) (fun _ _ h=>h) (fun o ho h=>by simp [h,ho]) (fun _ _=>rfl) (fun _ _=>rfl) (Nat.le_refl _) (fun τ hτ=>⟨by simp only;rw [hT',List.getElem?_append_left hτ],rfl⟩) hd
 refine ⟨v,rfl,r0,H1,T,{ c' with bd:=fun o=>c'.bd o && decide (o < H1.length),T:=T },hQ,?_,?_,?_,rfl,hbel⟩
 ·exact move (hr _ _ hrep) hcl
 ·have hlt : ∀ {o : Nat} {x : Ob},H1[o]? = some x -> o < H1.length:=fun {o x} h=>by
   rcases Nat.lt_or_ge o H1.length with h' | h'
   ·exact h'
   ·rw [List.getElem?_eq_none h'] at h;cases h
  have hget : ∀ {o : Nat} {x : Ob},H1[o]? = some x -> ∃ x',(Hm ++ L)[o]? = some x' /\ Gs x' x:=fun {o x} h=>by
   have h1:=hlt h
   have h2 : o < Hm.length:=by omega
   refine ⟨Hm[o],by rw [List.getElem?_append_left h2,List.getElem?_eq_getElem h2],hs o _ _ (List.getElem?_eq_getElem h2) h⟩
  have htok : ∀ {τ : Nat} {x},T[τ]? = some x -> c'.T[τ]? = some x:=fun {τ x} h=>by
   have : τ < T.length:=by
    rcases Nat.lt_or_ge τ T.length with h' | h'
    ·exact h'
    ·rw [List.getElem?_eq_none h'] at h;cases h
   rw [hT',List.getElem?_append_left this];exact h
  refine ⟨hinv.keep,hinv.low,fun o x cs h hx=>?_,?_,fun o x h hx=>?_,fun o o' x x' h h' hx hx' he=>?_,fun o es clk h=>?_,fun o m l h=>?_,
   fun τ n z h=>hinv.tok τ n z (htok h),fun τ n z o x h h1 hx=>?_,fun τ n z τ' n' z' h h'=>hinv.toks τ n z τ' n' z' (htok h) (htok h')⟩
  ·obtain ⟨x',g1,g2⟩:=hget h
   have hclosed : D.clL H1.length T.length cs = true:=by
    rcases hC.2 o x cs h hx with h0 | h0
    ·obtain ⟨vs0,rest0,e0,fr0,q1,q2,q4,q3⟩:=(hi.row o x cs h0 hx).hold
     refine jS fun d hd=>?_
     obtain ⟨i,hi',rfl⟩:=List.getElem_of_mem hd
     rw [<- hT]
     refine (q2.rep i hi' (by rw [q2.len];exact hi')).cl fun o ho=>?_
     rcases Nat.lt_or_ge o H.length with h' | h'
     ·exact Nat.lt_of_lt_of_le h' hC.1
     ·rw [hi.free o (.inl h')] at ho;cases ho
    ·exact h0
   obtain ⟨vs,rest,e,fr,k1,k2,k4,k3⟩ : RowAt c' w' (c'.β o) (c'.sz o) cs:=by
    rcases g2 with rfl | ⟨cs',rfl,rfl⟩
    ·exact hinv.row o _ cs g1 hx
    ·simp only [Ob.cells?,Option.some.injEq] at hx
     subst hx
     obtain ⟨vs,rest,e,fr,k1,k2,k4,k3⟩:=hinv.row o _ cs' g1 rfl
     refine ⟨vs,rest,e,fr,k1,⟨by rw [bM];exact k2.len,fun d hd=>?_,fun i a b=>?_⟩,k4,k3⟩
     ·rw [gE] at hd
      obtain ⟨y,hy,rfl⟩:=List.mem_map.1 hd
      rw [sC];exact k2.one y hy
     ·have a' : i < cs'.length:=by rw [bM] at a;exact a
      rw [eC cs' i a'];exact (k2.rep i a' b).erase
   refine ⟨vs,rest,e,fr,k1,?_,k4,k3⟩
   exact ⟨k2.len,k2.one,fun i a b=>move (k2.rep i a b) (kW hclosed _ (List.getElem_mem a))⟩
  ·intro o h
   rcases h with h | h
   ·have : ¬ o < H1.length:=by omega
    simp [this]
   ·obtain ⟨x',g1,g2⟩:=hget h
    have : x' = .hole:=by rcases g2 with rfl | ⟨cs,rfl,g⟩ <;> first | rfl | cases g
    subst this
    have:=hinv.free o (.inr g1)
    simp [this]
  ·obtain ⟨x',g1,g2⟩:=hget h
   obtain ⟨q1,q2,q3,q4⟩:=hinv.own o x' g1 (by rw [mG g2];exact hx)
   exact ⟨by simp [q1,hlt h],q2,q3,q4⟩
  ·obtain ⟨y,g1,g2⟩:=hget h
   obtain ⟨y',g1',g2'⟩:=hget h'
   exact hinv.apart o o' y y' g1 g1' (by rw [mG g2];exact hx) (by rw [mG g2'];exact hx') he
  ·obtain ⟨x',g1,g2⟩:=hget h
   have : x' = .map es clk:=by rcases g2 with rfl | ⟨cs,rfl,g⟩ <;> first | rfl | cases g
   subst this
   exact hinv.map o es clk g1
  ·obtain ⟨x',g1,g2⟩:=hget h
   have : x' = .iter m l:=by rcases g2 with rfl | ⟨cs,rfl,g⟩ <;> first | rfl | cases g
   subst this
   exact hinv.iter o m l g1
  ·obtain ⟨x',g1,g2⟩:=hget h1
   exact hinv.tokrow τ n z o x' (htok h) g1 (by rw [mG g2];exact hx)
 ·refine ⟨hle.M,fun o ho=>?_,fun o ho=>hle.β o ho,by simp [hT],fun τ h=>by simpa [<- hT] using h,fun τ n z h=>.inr ⟨n,by simpa [<- hT] using h,Nat.le_refl _,fun _=>?_⟩,hle.B,fun o ho=>?_⟩
  ·have : o < H1.length:=by
    rcases Nat.lt_or_ge o H.length with h' | h'
    ·exact Nat.lt_of_lt_of_le h' hC.1
    ·rw [hi.free o (.inl h')] at ho;cases ho
   simp [hle.bd o ho,this]
  ·rw [hT] at h
   have hlt : τ < T.length:=by
    rcases Nat.lt_or_ge τ T.length with h' | h'
    ·exact h'
    ·rw [List.getElem?_eq_none h'] at h;cases h
   have h2 : c'.T[τ]? = some (some (n,z)):=by rw [hT',List.getElem?_append_left hlt];exact h
   rcases hle.tok τ n z (by rw [hT];exact h) with k | ⟨n',k1,k2,k3⟩
   ·rw [k] at h2;cases h2
   ·rw [k1] at h2;injection h2 with h2;injection h2 with h2;injection h2 with h2 _
    exact k3 h2
  ·exact hle.sz o ho
variable [HasG P]
abbrev FsE:=List (FuncId × (Hp -> List D -> Option (D × Hp)))
def m7 : FsE -> Hp -> FuncId -> List D -> Option (D × Hp)
 | [],_,_,_=>none
 | (g,φ) :: l,H,f,a=>if f = g then φ H a else m7 l H f a
def inE : FsE -> FuncId -> Bool
 | [],_=>false
 | (g,_) :: l,f=>decide (f = g) || inE l f
theorem A2F (H : Hp) (f : FuncId) (a : List D) : m7 [] H f a = none:=id rfl
theorem HF (g : FuncId) (φ : Hp -> List D -> Option (D × Hp)) (l : FsE) (H : Hp) (f : FuncId) (a : List D) : m7 ((g,φ) :: l) H f a = if f = g then φ H a else m7 l H f a:=id rfl
theorem O9 (f : FuncId) : inE [] f = false:=id rfl
theorem NF (g : FuncId) (φ : Hp -> List D -> Option (D × Hp)) (l : FsE) (f : FuncId) : inE ((g,φ) :: l) f = (decide (f = g) || inE l f):=id rfl
theorem GY : ∀ {l : FsE} {H : Hp} {f : FuncId} {a : List D},inE l f = false -> m7 l H f a = none
 | [],_,_,_,_=>rfl
 | (g,φ) :: l,H,f,a,h=>by
  simp only [inE,Bool.or_eq_false_iff,decide_eq_false_iff_not] at h
  simp only [m7]
  rw [if_neg h.1];exact GY h.2
def XE (l : Fs) (m : FsH) (e : FsE) : d8:=fun f args H T Q=>match kF l f (D.eraseL args) with
 | some r=>Q r H T
 | none=>match gC m H f (D.eraseL args) with
  | some r=>Q r H T
  | none=>match m7 e H f (D.eraseL args) with
   | some (r,H')=>Q r H' T
   | none=>False
def bK (P : Program) [HasG P] (f : FuncId) (φ : Hp -> List D -> Option (D × Hp)) : Prop:=∀ H args r H',φ H args = some (r,H') -> ∀ args',D.eraseL args' = args -> ∀ T (Q : dM),Q r H' T -> Snd P f args' H T Q
def OkE (P : Program) [HasG P] (m : FsE) : Prop:=∀ H f args r H',m7 m H f args = some (r,H') -> ∀ args',D.eraseL args' = args -> ∀ T (Q : dM),Q r H' T -> Snd P f args' H T Q
theorem OkE.nil : OkE P []:=fun _ _ _ _ _ h=>by simp [m7] at h
theorem OkE.cons {f : FuncId} {φ : Hp -> List D -> Option (D × Hp)} {m : FsE} (h : bK P f φ) (k : OkE P m) : OkE P ((f,φ) :: m):=by
 intro H g args r H' hr
 simp only [m7] at hr
 split at hr
 ·rename_i e;subst e;exact h H args r H' hr
 ·exact k H g args r H' hr
theorem XE.X {l : Fs} {m : FsH} {e : FsE} (k : Ok P l) (k' : OkH P m) (k'' : OkE P e) : ∀ f args H T Q Q',(∀ r H T,Q r H T -> Q' r H T) -> XE l m e f args H T Q -> Snd P f args H T Q':=by
 intro f args H T Q Q' hQ h
 unfold XE at h
 split at h
 ·rename_i r hr
  exact k f _ r hr args rfl H T Q' (hQ _ _ _ h)
 ·split at h
  ·rename_i r hr
   exact k' H f _ r hr args rfl T Q' (hQ _ _ _ h)
  ·split at h
   ·rename_i r H' hr
    exact k'' H f _ r H' hr args rfl T Q' (hQ _ _ _ h)
   ·exact h.elim
theorem jV (l : Fs) (m : FsH) (e : FsE) : uL (XE l m e):=by
 intro f args H T Q Q' hQ h
 unfold XE at h ⊢
 split at h
 ·exact hQ _ _ _ h
 ·split at h
  ·exact hQ _ _ _ h
  ·split at h
   ·exact hQ _ _ _ h
   ·exact h.elim
def N2 (X : d8) (args : List D) (K : D -> S -> Prop) (s : S) (d : D) : Prop:=cT X args K s d
theorem cH {l : Fs} {m : FsH} {e : FsE} (hm : cQ m) (args : List D) (K : D -> S -> Prop) (s : S) (f : FuncId) (first cap : List D) :
  cT (XE l m e) args K s (.fn f first cap) = if inE e f = true then N2 (XE l m e) args K s (.fn f first cap) else orK K s (kF l f (D.eraseL (first ++ args ++ cap))) (gC m s.H f (D.eraseL (first ++ args ++ cap))):=by
 cases he : inE e f with
 | true=>rfl
 | false =>
  rw [if_neg (by simp)]
  have hx : ∀ a H T Q,XE l m e f a H T Q = XM l m f a H T Q:=by
   intro a H T Q
   unfold XE XM
   (rw [GY he]) <;> rfl
  rw [<- Qt hm]
  simp only [cT,eq_iff_iff]
  unfold Qg
  simp only [hx]
def orE (Q : dM) (T : Tk) : Option (D × Hp) -> Prop
 | some (r,H')=>Q r H' T
 | none=>False
def orX (Q : dM) (H : Hp) (T : Tk) : Option D -> Option D -> Option (D × Hp) -> Prop
 | some r,_,_=>Q r H T
 | none,some r,_=>Q r H T
 | none,none,x=>orE Q T x
theorem Pd (l : Fs) (m : FsH) (e : FsE) (f : FuncId) (args : List D) (H : Hp) (T : Tk) (Q : dM) : XE l m e f args H T Q = orX Q H T (kF l f (D.eraseL args)) (gC m H f (D.eraseL args)) (m7 e H f (D.eraseL args)):=by
 unfold XE
 cases kF l f (D.eraseL args) with
 | some r=>rfl
 | none =>
  cases gC m H f (D.eraseL args) with
  | some r=>rfl
  | none =>
   cases m7 e H f (D.eraseL args) with
   | some x=>rfl
   | none=>rfl
theorem Ws (Q : dM) (H : Hp) (T : Tk) (r : D) (x : Option D) (y : Option (D × Hp)) : orX Q H T (some r) x y = Q r H T:=id rfl
theorem A2m (Q : dM) (H : Hp) (T : Tk) (r : D) (y : Option (D × Hp)) : orX Q H T none (some r) y = Q r H T:=id rfl
theorem Sx (Q : dM) (H : Hp) (T : Tk) (y : Option (D × Hp)) : orX Q H T none none y = orE Q T y:=id rfl
theorem Wx (Q : dM) (T : Tk) (r : D) (H' : Hp) : orE Q T (some (r,H')) = Q r H' T:=id rfl
theorem Dj {l : Fs} {m : FsH} {e : FsE} (hl : Ok P l) (hm : OkH P m) (hE : OkE P e) {f : FuncId} {n : Nat} {rs : List (Sum Nat (Nat × Bool × Nat))} {cc : C} (hf : Fn P f n rs cc) {φ : Hp -> List D -> Option (D × Hp)}
  (h : ∀ H args r H1,φ H args = some (r,H1) -> args.length <= n /\ r.cl H1.length 0 = true /\ mV H H1 0 /\ ∀ T,W (XE l m e) cc (mW rs (dB r H1 T)) ⟨bF args,H,T⟩) : bK P f φ:=by
 intro H args r H1 hr args' he T Q hQ
 obtain ⟨h1,h2,h4,h3⟩:=h H args r H1 hr
 have hS : Snd P f args H T (dB r H1 T):=oS hf h1 (fE (XE.X hl hm hE) (fun _ _ h=>h) (h3 T))
 intro c w vs kg k1 k2 k3
 have k3' : Reps c args vs:=by rw [<- he];exact k3.erase
 have hcl:=D.cl_mono (Nat.le_refl H1.length) (Nat.zero_le T.length) r h2
 have hC : mV H H1 T.length:=⟨h4.1,fun o x cs a b=>(h4.2 o x cs a b).imp id (D.clL_mono (Nat.le_refl _) (Nat.zero_le _) cs)⟩
 rcases hS c w vs kg k1 k2 k3' with ⟨g1,g2⟩ | ⟨v,w',g1,g2⟩
 ·exact .inl ⟨g1,g2.mono fun e w' k=>bJ.forgetE k1 k2 hcl hC hQ k⟩
 ·exact .inr ⟨v,w',g1,bJ.forgetE k1 k2 hcl hC hQ g2⟩
theorem B9 {r0 r : D} {H H' : Hp} {T T' : Tk} (h : i5 r0 H T r H' T') : dB r0 H T r H' T':=by
 obtain ⟨h1,⟨L,h2⟩,h3⟩:=h
 exact ⟨r,H',.refl _ _,.erase h1,⟨H,L,h2,Az.refl H⟩,h3⟩
theorem aL {r0 r : D} {H H' : Hp} {T T' : Tk} (h1 : r.erase = r0) (h2 : ∃ L,H' = H ++ L) (h3 : ∃ U,T' = T ++ U) : dB r0 H T r H' T':=B9 ⟨h1,h2,h3⟩
theorem lvM {r0 r : D} {H H' : Hp} {T T' : Tk} (h1 : r.erase = r0:=by first | rfl | simp [D.erase,D.eraseL]) (h2 : ∃ L,H' = H ++ L:=by first | exact ⟨_,rfl⟩ | (refine ⟨[],?_⟩;simp;done)) (h3 : ∃ U,T' = T ++ U:=by first | exact ⟨_,rfl⟩ | (refine ⟨[],?_⟩;simp;done)) : dB r0 H T r H' T':=B9 ⟨h1,h2,h3⟩
theorem mV.refl (H : Hp) (n : Nat) : mV H H n:=⟨Nat.le_refl _,fun _ _ _ h _=>.inl h⟩
theorem Qo {l : Fs} {m : FsH} {e : FsE} (hl : Ok P l) (hm : OkH P m) (hE : OkE P e) {f : FuncId} {n : Nat} {rs : List (Sum Nat (Nat × Bool × Nat))} {cc : C} (hf : Fn P f n rs cc) {φ : List D -> Option D}
  (h : ∀ args r,φ args = some r -> args.length <= n /\ r.cl 0 0 = true /\ ∀ H T,W (XE l m e) cc (mW rs (dB r H T)) ⟨bF args,H,T⟩) : aO P f φ:=by
 intro args r hr args' he H T Q hQ
 refine Dj hl hm hE hf (φ:=fun H a=>(φ a).map fun r=>(r,H)) (fun H a r H1 hr=>?_) H args r H (by simp [hr]) args' he T Q hQ
 cases ha : φ a with
 | none=>rw [ha] at hr;cases hr
 | some r' =>
  rw [ha] at hr;simp only [Option.map_some,Option.some.injEq,Prod.mk.injEq] at hr
  obtain ⟨rfl,rfl⟩:=hr
  obtain ⟨h1,h2,h3⟩:=h a r' ha
  exact ⟨h1,D.cl_mono (Nat.zero_le _) (Nat.le_refl _) r' h2,mV.refl _ _,fun T=>h3 H T⟩
theorem Na {l : Fs} {m : FsH} {e : FsE} (hl : Ok P l) (hm : OkH P m) (hE : OkE P e) {f : FuncId} {n : Nat} {rs : List (Sum Nat (Nat × Bool × Nat))} {cc : C} (hf : Fn P f n rs cc) {φ : Hp -> List D -> Option D}
  (h : ∀ H args r,φ H args = some r -> args.length <= n /\ r.cl H.length 0 = true /\ ∀ T,W (XE l m e) cc (mW rs (dB r H T)) ⟨bF args,H,T⟩) : B1 P f φ:=by
 intro H args r hr args' he T Q hQ
 refine Dj hl hm hE hf (φ:=fun H a=>(φ H a).map fun r=>(r,H)) (fun H a r H1 hr=>?_) H args r H (by simp [hr]) args' he T Q hQ
 cases ha : φ H a with
 | none=>rw [ha] at hr;cases hr
 | some r' =>
  rw [ha] at hr;simp only [Option.map_some,Option.some.injEq,Prod.mk.injEq] at hr
  obtain ⟨rfl,rfl⟩:=hr
  obtain ⟨h1,h2,h3⟩:=h H a r' ha
  exact ⟨h1,h2,mV.refl _ _,fun T=>h3 T⟩
end
end GP
