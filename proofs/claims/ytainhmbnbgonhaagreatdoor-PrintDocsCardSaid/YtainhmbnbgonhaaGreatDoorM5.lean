import Derived.Shelf.SlSortCmp.WholeK
import Derived.Test.YtainhmbnbgonhaaGreatDoorProg
import Derived.Test.YtainhmbnbgonhaaGreatDoorM4
set_option linter.unusedSimpArgs false
set_option linter.unnecessarySimpa false
namespace GP
open Go
open Rd O
set_option maxRecDepth 100000
variable {P : Program} [HasG P]
@[go_sem high] theorem iab_nat (sz : Nat) (b : Bool) (xs : List D) (k : IntKind) (i : Nat) : ia sz (sliceD b xs) (.int k (i : Int)) = iaE sz xs[i]?:=by
 rw [ia_sliceD,if_pos (by omega)];simp
@[go_sem high] theorem iab_nat' (sz : Nat) (t : Option Nat) (xs : List D) (k : IntKind) (i : Nat) : ia sz (.sl t xs) (.int k (i : Int)) = iaE sz xs[i]?:=by
 rw [ia_sl,if_pos (by omega)];simp
def isLs (p : D -> Prop) (d : D) : Prop:=∃ n l,d = sliceD n l /\ l.length <= 2 ^ 47 /\ ∀ x ∈ l,p x
theorem isLs_nils (p : D -> Prop) : isLs p .nils:=⟨true,[],rfl,by simp,by simp⟩
theorem eraseL_id {l : List D} (h : ∀ x ∈ l,x.erase = x) : D.eraseL l = l:=by
 rw [eraseL_map]
 exact (List.map_congr_left h).trans (List.map_id'' (fun _=>rfl) l)
theorem isLs_erase {p : D -> Prop} (hp : ∀ x,p x -> x.erase = x) {d : D} (h : isLs p d) : d.erase = d:=by
 obtain ⟨n,l,rfl,_,hx⟩:=h
 rw [erase_sliceD,eraseL_id fun x hl=>hp x (hx x hl)]
theorem wrapIY (a : Int) : IntKind.i64.wrap a = if a % 2 ^ 64 ≥ 2 ^ 63 then a % 2 ^ 64 - 2 ^ 64 else a % 2 ^ 64:=by simp [IntKind.wrap,IntKind.bits,IntKind.signed]
theorem wrap_inY {a : Int} (h1 : -(2 ^ 63) <= a) (h2 : a < 2 ^ 63) : IntKind.i64.wrap a = a:=by rw [wrapIY];split <;> omega
theorem wrap_natY (n : Nat) (h : n <= 2 ^ 62) : IntKind.i64.wrap ((n : Int) + 1) = ((n + 1 : Nat) : Int):=by
 rw [wrap_inY (by omega) (by omega)];rfl
structure El (ag : Bool) (sz : Nat) (x : D) : Prop where
 erase : x.erase = x
 len : x.cells.length = sz
 ld : ld ag sz (some x.cells) = some x
theorem El.agg {sz : Nat} {x : D} (h1 : x.erase = x) (h2 : x.cells.length = sz) (h3 : D.agg x.cells = x) : El true sz x :=
 ⟨h1,h2,by simp only [GP.ld,if_true];rw [if_pos (by omega),List.take_of_length_le (by omega),h3]⟩
def isT : Option D -> Bool
 | some (.bool b)=>b
 | _=>false
def idxP (p : D -> Bool) (l : List D) : Int:=match l.findIdx? p with
 | some i=>i
 | none=>-1
def idxC (ag : Bool) (sz : Nat) : C :=
 (.seq (.reg [⟨(some 4),none,.mv (k (.int .i64 0))⟩])
 (.seq (.seq (.reg [⟨(some 6),none,.mv (t 0)⟩,⟨(some 7),none,.len (t 6)⟩,⟨(some 8),none,.mv (k (.int .i64 0))⟩])
 (.block 0
 (.loop
 (.seq (.reg [⟨(some 9),none,.bin .lss (t 8) (t 7)⟩])
 (.seq (.cond (t 9)
 .skip
 (.exit 0))
 (.seq (.block 1
 (.seq (.reg [⟨(some 10),none,.mv (t 8)⟩,⟨(some 5),none,.mv (t 10)⟩])
 (.seq (.reg [⟨(some 11),none,.mv (t 1)⟩,⟨(some 12),none,.mv (t 0)⟩,⟨(some 13),none,.mv (t 5)⟩,⟨(some 14),none,.iaddr sz (t 12) (t 13)⟩,⟨(some 15),none,.load ag sz (t 14)⟩,⟨(some 16),none,.pcall (t 11) [(t 15)]⟩])
 (.cond (t 16)
 (.seq (.reg [⟨(some 17),none,.mv (t 5)⟩,⟨(some 4),none,.mv (t 17)⟩])
 .ret)
 .skip))))
 (.reg [⟨(some 18),none,.bin .add (t 8) (k (.int .i64 1))⟩,⟨(some 8),none,.mv (t 18)⟩])))))))
 (.seq (.reg [⟨(some 4),none,.mv (k (.int .i64 (-1)))⟩])
 .ret)))
open Classical in
noncomputable def φidx (f : FuncId) (φf : Hp -> List D -> Option D) (good : D -> Prop) (H : Hp) : List D -> Option D
 | [l,.fn g [] cap]=>if g = f /\ isLs good l /\ D.eraseL cap = cap /\ ∀ x ∈ elems l,∃ b,φf H (x :: cap) = some (.bool b) then some (.int .i64 (idxP (fun x=>isT (φf H (x :: cap))) (elems l))) else none
 | _=>none
def Mo (φf : Hp -> List D -> Option D) : Prop:=∀ H H' a r,Hle H H' -> φf H a = some r -> φf H' a = some r
theorem Mo.const (φ : List D -> Option D) : Mo (fun _=>φ):=fun _ _ _ _ _ h=>h
theorem OkAt.lift {f : FuncId} {φ : List D -> Option D} (h : OkAt P f φ) : OkAtH P f (fun _=>φ):=fun H args r hr args' he T Q hQ=>h args r hr args' he H T Q hQ
theorem idxP_congr {p q : D -> Bool} {l : List D} (h : ∀ x ∈ l,p x = q x) : idxP p l = idxP q l:=by
 unfold idxP
 have : l.findIdx? p = l.findIdx? q:=by
  induction l with
  | nil=>rfl
  | cons a l ih =>
   simp only [List.findIdx?_cons,h a (by simp),ih (fun x hx=>h x (by simp [hx]))]
 rw [this]
theorem φidx_mono {f : FuncId} {φf : Hp -> List D -> Option D} (hm : Mo φf) (good : D -> Prop) : Mo (φidx f φf good):=by
 intro H H' a r hl h
 unfold φidx at h ⊢
 split at h
 ·rename_i l g cap
  split at h
  ·rename_i hc
   obtain ⟨h1,h2,h3,h4⟩:=hc
   have h4' : ∀ x ∈ elems l,∃ b,φf H' (x :: cap) = some (.bool b):=fun x hx=>by
    obtain ⟨b,hb⟩:=h4 x hx
    exact ⟨b,hm _ _ _ _ hl hb⟩
   rw [if_pos ⟨h1,h2,h3,h4'⟩,← h]
   congr 2
   refine idxP_congr fun x hx=>?_
   obtain ⟨b,hb⟩:=h4 x hx
   rw [hb,hm _ _ _ _ hl hb]
  ·cases h
 ·cases h
theorem findIdx_at {p : D -> Bool} : ∀ {l : List D} {i : Nat} {x : D},l[i]? = some x -> p x = true -> (∀ (j : Nat) y,j < i -> l[j]? = some y -> p y = false) -> l.findIdx? p = some i
 | a :: l,0,x,h,hp,_=>by simp at h;subst h;simp [List.findIdx?_cons,hp]
 | a :: l,i + 1,x,h,hp,hn=>by
  have h0:=hn 0 a (by omega) rfl
  have:=findIdx_at (l:=l) (i:=i) (x:=x) (by simpa using h) hp (fun j y hj hy=>hn (j + 1) y (by omega) (by simpa using hy))
  simp [List.findIdx?_cons,h0,this]
theorem findIdx_no {p : D -> Bool} : ∀ {l : List D},(∀ (j : Nat) y,l[j]? = some y -> p y = false) -> l.findIdx? p = none
 | [],_=>rfl
 | a :: l,h=>by
  have h0:=h 0 a rfl
  have:=findIdx_no (l:=l) (fun j y hy=>h (j + 1) y (by simpa using hy))
  simp [List.findIdx?_cons,h0,this]
theorem okIdx {ag : Bool} {sz : Nat} {N : FuncId} (hf : Fn P N 19 [.inl 4] (idxC ag sz)) {f : FuncId} {φf : Hp -> List D -> Option D} (hφ : OkAtH P f φf) (hm : Mo φf) {good : D -> Prop} (hg : ∀ x,good x -> El ag sz x) : OkAtH P N (φidx f φf good):=by
 have M : MonoH [(f,φf)]:=.cons hm .nil
 refine okH_of (l:=[]) (m:=[(f,φf)]) .nil (.cons hφ .nil) hf fun H args r h=>?_
 unfold φidx at h
 split at h
 ·rename_i l g cap
  split at h
  ·rename_i hc
   obtain ⟨rfl,⟨n,xs,rfl,hl,hx⟩,h3,h4⟩:=hc
   rw [elems_sliceD] at h h4
   injection h with h;subst h
   refine ⟨by simp,by simp [D.cl],fun T=>?_⟩
   simp +contextual (maxSteps:=10000000) only [idxC,go_sem]
   refine W_for (fun i s=>s.t 0 = sliceD n xs /\ s.t 1 = .fn g [] cap /\ s.t 6 = sliceD n xs /\ s.t 7 = .int .i64 xs.length /\ s.t 8 = .int .i64 i /\ s.H = H /\ s.T = T /\ i <= xs.length /\ ∀ (j : Nat) x,j < i -> xs[j]? = some x -> isT (φf H (x :: cap)) = false) xs.length ⟨0,by simp [upd,argT]⟩ (fun i s h=>h.2.2.2.2.2.2.2.1) ?_ (XM_mono _ _)
   rintro i ⟨t,H',T'⟩ ⟨h0,h1,h6,h7,h8,rfl,rfl,hi,hc⟩
   simp only at h0 h1 h6 h7 h8
   by_cases ha : i < xs.length
   ·have d1 : decide ((i : Int) < xs.length) = true:=by simpa using ha
    have e : xs[i]? = some xs[i]:=by simp [ha]
    have hxi:=hx _ (List.getElem_mem ha)
    obtain ⟨b,hb⟩:=h4 _ (List.getElem_mem ha)
    have E:=hg _ hxi
    generalize xs[i] = x at *
    have hle:=E.len
    have hld:=E.ld
    have her:=E.erase
    cases b with
    | true =>
     have hI : idxP (fun x=>isT (φf H' (x :: cap))) xs = i:=by
      unfold idxP
      rw [findIdx_at e (by rw [hb];rfl) hc]
     simp +contextual (maxSteps:=10000000) only [h0,h1,h6,h7,h8,d1,e,hle,hld,her,h3,hb,hI,wrap_natY i (by omega),pcallH M,lookH_cons,lookH_nil,orK_n,go_sem]
    | false =>
     have nx : ∀ (j : Nat) x,j < i + 1 -> xs[j]? = some x -> isT (φf H' (x :: cap)) = false:=fun j y hj hy=>by
      by_cases hji : j = i
      ·subst hji;rw [e] at hy;injection hy with hy;subst hy;rw [hb];rfl
      ·exact hc j y (by omega) hy
     simp +contextual (maxSteps:=10000000) only [h0,h1,h6,h7,h8,d1,e,hle,hld,her,h3,hb,wrap_natY i (by omega),pcallH M,lookH_cons,lookH_nil,orK_n,go_sem]
     exact ⟨by omega,nx⟩
   ·have d1 : decide ((i : Int) < xs.length) = false:=by simpa using ha
    have hI : idxP (fun x=>isT (φf H' (x :: cap))) xs = -1:=by
     unfold idxP
     rw [findIdx_no (fun j y hy=>hc j y (by
      rcases Nat.lt_or_ge j i with h' | h'
      ·exact h'
      ·rw [List.getElem?_eq_none (by omega)] at hy;cases hy) hy)]
    simp +contextual (maxSteps:=10000000) only [h0,h1,h6,h7,h8,d1,hI,go_sem]
  ·cases h
 ·cases h
def cfC (g : FuncId) : C :=
 (.seq (.reg [⟨(some 4),none,.mv (k (.bool false))⟩])
 (.seq (.reg [⟨(some 5),none,.mv (t 0)⟩,⟨(some 6),none,.mv (t 1)⟩,⟨(some 7),none,.pcall (k (.fn g [] [])) [(t 5),(t 6)]⟩,⟨(some 8),none,.bin .geq (t 7) (k (.int .i64 0))⟩,⟨(some 4),none,.mv (t 8)⟩])
 .ret))
open Classical in
noncomputable def φcf (f : FuncId) (φf : Hp -> List D -> Option D) (good : D -> Prop) (H : Hp) : List D -> Option D
 | [l,.fn g [] cap]=>if g = f /\ isLs good l /\ D.eraseL cap = cap /\ ∀ x ∈ elems l,∃ b,φf H (x :: cap) = some (.bool b) then some (.bool ((elems l).any (fun x=>isT (φf H (x :: cap))))) else none
 | _=>none
theorem idxP_any (p : D -> Bool) (l : List D) : decide ((0 : Int) <= idxP p l) = l.any p:=by
 unfold idxP
 cases h : l.findIdx? p with
 | some i =>
  have : l.any p = true:=by
   rw [List.findIdx?_eq_some_iff_getElem] at h
   obtain ⟨h1,h2,_⟩:=h
   exact List.any_eq_true.2 ⟨_,List.getElem_mem h1,h2⟩
  rw [this];simp
 | none =>
  have : l.any p = false:=by
   rw [List.findIdx?_eq_none_iff] at h
   exact List.any_eq_false.2 fun x hx=>by simp [h x hx]
  rw [this];rfl
theorem any_congr' {p q : D -> Bool} {l : List D} (h : ∀ x ∈ l,p x = q x) : l.any p = l.any q:=by
 induction l with
 | nil=>rfl
 | cons a l ih=>simp only [List.any_cons,h a (by simp),ih (fun x hx=>h x (by simp [hx]))]
theorem okCf {N M : FuncId} (hf : Fn P N 9 [.inl 4] (cfC M)) {f : FuncId} {φf : Hp -> List D -> Option D} {good : D -> Prop} (hge : ∀ x,good x -> x.erase = x) (hi : OkAtH P M (φidx f φf good)) (hm : Mo φf) : OkAtH P N (φcf f φf good):=by
 have MM : MonoH [(M,φidx f φf good)]:=.cons (φidx_mono hm good) .nil
 refine okH_of (l:=[]) (m:=[(M,φidx f φf good)]) .nil (.cons hi .nil) hf fun H args r h=>?_
 unfold φcf at h
 split at h
 ·rename_i l g cap
  split at h
  ·rename_i hc
   have p : φidx f φf good H [l,.fn g [] cap] = some (.int .i64 (idxP (fun x=>isT (φf H (x :: cap))) (elems l))):=by
    simp only [φidx];rw [if_pos hc]
   have a:=idxP_any (fun x=>isT (φf H (x :: cap))) (elems l)
   obtain ⟨rfl,h2,h3,h4⟩:=hc
   have el:=isLs_erase hge h2
   injection h with h;subst h
   refine ⟨by simp,by simp [D.cl],fun T=>?_⟩
   simp +contextual (maxSteps:=10000000) only [cfC,el,h3,p,pcallH MM,lookH_cons,lookH_nil,orK_n,a,go_sem]
  ·cases h
 ·cases h
end GP
namespace GP
open Go
open Rd O
set_option maxRecDepth 100000
variable {P : Program} [HasG P]
def isTx (x : D) : Prop:=∃ w,x = .str w /\ w.length <= 2 ^ 47
def strOf : D -> List UInt8
 | .str w=>w
 | _=>[]
theorem isTx_erase {x : D} (h : isTx x) : x.erase = x:=by obtain ⟨w,rfl,_⟩:=h;rfl
def idxSC : C :=
 (.seq (.reg [⟨(some 4),none,.mv (k (.int .i64 0))⟩])
 (.seq (.seq (.reg [⟨(some 6),none,.mv (t 0)⟩,⟨(some 7),none,.len (t 6)⟩,⟨(some 8),none,.mv (k (.int .i64 0))⟩])
 (.block 0
 (.loop
 (.seq (.reg [⟨(some 9),none,.bin .lss (t 8) (t 7)⟩])
 (.seq (.cond (t 9)
 .skip
 (.exit 0))
 (.seq (.block 1
 (.seq (.reg [⟨(some 10),none,.mv (t 8)⟩,⟨(some 5),none,.mv (t 10)⟩])
 (.seq (.reg [⟨(some 11),none,.mv (t 1)⟩,⟨(some 12),none,.mv (t 0)⟩,⟨(some 13),none,.mv (t 5)⟩,⟨(some 14),none,.iaddr 1 (t 12) (t 13)⟩,⟨(some 15),none,.load false 1 (t 14)⟩,⟨(some 16),none,.bin .eql (t 11) (t 15)⟩])
 (.cond (t 16)
 (.seq (.reg [⟨(some 17),none,.mv (t 5)⟩,⟨(some 4),none,.mv (t 17)⟩])
 .ret)
 .skip))))
 (.reg [⟨(some 18),none,.bin .add (t 8) (k (.int .i64 1))⟩,⟨(some 8),none,.mv (t 18)⟩])))))))
 (.seq (.reg [⟨(some 4),none,.mv (k (.int .i64 (-1)))⟩])
 .ret)))
open Classical in
noncomputable def φidxS : List D -> Option D
 | [l,.str w]=>if isLs isTx l then some (.int .i64 (idxP (fun x=>w == strOf x) (elems l))) else none
 | _=>none
theorem okIdxS {N : FuncId} (hf : Fn P N 19 [.inl 4] idxSC) : OkAt P N φidxS:=by
 refine ok_of (l:=[]) .nil hf fun args r h=>?_
 unfold φidxS at h
 split at h
 ·rename_i l w
  split at h
  ·rename_i hc
   obtain ⟨n,xs,rfl,hl,hx⟩:=hc
   rw [elems_sliceD] at h
   injection h with h;subst h
   refine ⟨by simp,by simp [D.cl],fun H T=>?_⟩
   simp +contextual (maxSteps:=10000000) only [idxSC,go_sem]
   refine W_for (fun i s=>s.t 0 = sliceD n xs /\ s.t 1 = .str w /\ s.t 6 = sliceD n xs /\ s.t 7 = .int .i64 xs.length /\ s.t 8 = .int .i64 i /\ s.H = H /\ s.T = T /\ i <= xs.length /\ ∀ (j : Nat) x,j < i -> xs[j]? = some x -> (w == strOf x) = false) xs.length ⟨0,by simp [upd,argT]⟩ (fun i s h=>h.2.2.2.2.2.2.2.1) ?_ (XL_mono _)
   rintro i ⟨t,H',T'⟩ ⟨h0,h1,h6,h7,h8,rfl,rfl,hi,hc⟩
   simp only at h0 h1 h6 h7 h8
   by_cases ha : i < xs.length
   ·have d1 : decide ((i : Int) < xs.length) = true:=by simpa using ha
    have e : xs[i]? = some xs[i]:=by simp [ha]
    obtain ⟨v,hv,_⟩:=hx _ (List.getElem_mem ha)
    generalize xs[i] = x at *
    subst hv
    have nx : (w == v) = false -> ∀ (j : Nat) x,j < i + 1 -> xs[j]? = some x -> (w == strOf x) = false:=fun hb j y hj hy=>by
     by_cases hji : j = i
     ·subst hji;rw [e] at hy;injection hy with hy;subst hy;exact hb
     ·exact hc j y (by omega) hy
    have hI : (w == v) = true -> idxP (fun x=>w == strOf x) xs = i:=fun hb=>by
     unfold idxP
     rw [findIdx_at e hb hc]
    cases hb : (w == v) with
    | true =>
     have hI:=hI hb
     simp +contextual (maxSteps:=10000000) only [h0,h1,h6,h7,h8,d1,e,hb,hI,wrap_natY i (by omega),go_sem]
    | false =>
     have nx:=nx hb
     simp +contextual (maxSteps:=10000000) only [h0,h1,h6,h7,h8,d1,e,hb,wrap_natY i (by omega),go_sem]
     exact ⟨by omega,nx⟩
   ·have d1 : decide ((i : Int) < xs.length) = false:=by simpa using ha
    have hI : idxP (fun x=>w == strOf x) xs = -1:=by
     unfold idxP
     rw [findIdx_no (fun j y hy=>hc j y (by
      rcases Nat.lt_or_ge j i with h' | h'
      ·exact h'
      ·rw [List.getElem?_eq_none (by omega)] at hy;cases hy) hy)]
    simp +contextual (maxSteps:=10000000) only [h0,h1,h6,h7,h8,d1,hI,go_sem]
  ·cases h
 ·cases h
open Classical in
noncomputable def φcontS : List D -> Option D
 | [l,.str w]=>if isLs isTx l then some (.bool ((elems l).any (fun x=>w == strOf x))) else none
 | _=>none
theorem okContS {N M : FuncId} (hf : Fn P N 9 [.inl 4] (cfC M)) (hi : OkAt P M φidxS) : OkAt P N φcontS:=by
 refine ok_of (l:=[(M,φidxS)]) (.cons hi .nil) hf fun args r h=>?_
 unfold φcontS at h
 split at h
 ·rename_i l w
  split at h
  ·rename_i hc
   have p : φidxS [l,.str w] = some (.int .i64 (idxP (fun x=>w == strOf x) (elems l))):=by
    simp only [φidxS];rw [if_pos hc]
   have a:=idxP_any (fun x=>w == strOf x) (elems l)
   have el:=isLs_erase (fun _=>isTx_erase) hc
   injection h with h;subst h
   refine ⟨by simp,by simp [D.cl],fun H T=>?_⟩
   simp +contextual (maxSteps:=10000000) only [cfC,el,p,a,go_sem]
  ·cases h
 ·cases h
theorem OkAtH.low {f : FuncId} {φ : List D -> Option D} (h : OkAtH P f (fun _=>φ)) : OkAt P f φ:=fun args r hr args' he H T Q hQ=>h H args r hr args' he T Q hQ
end GP
namespace GP
def imp : List Nat:=[49,50,69,70,71,72,73,82,103,104,105,118,119,120,121,122,123,170,202,217,228,236,238,239,240,241,245,247,248,249,1000000]
end GP
namespace GP
@[reducible] def Hq0 : Hn:=⟨fun f=>imp.contains f,true,fun _=>false,false⟩
@[reducible] def Hq1 : Hn:=⟨fun f=>imp.contains f,false,fun _=>false,false⟩
@[reducible] def Hq2 : Hn:=⟨fun f=>imp.contains f,false,fun f=>([24,58,61] : List Nat).contains f,true⟩
@[reducible] def Hq3 : Hn:=⟨fun f=>imp.contains f,false,fun _=>false,true⟩
@[reducible] def Hq4 : Hn:=⟨fun f=>imp.contains f,true,fun f=>([138] : List Nat).contains f,false⟩
@[reducible] def Hq5 : Hn:=⟨fun f=>imp.contains f,false,fun f=>([84] : List Nat).contains f,false⟩
@[reducible] def Hq6 : Hn:=⟨fun f=>imp.contains f,true,fun f=>([207] : List Nat).contains f,false⟩
@[reducible] def Hq7 : Hn:=⟨fun f=>(84 :: imp).contains f,false,fun f=>([84] : List Nat).contains f,false⟩
end GP
namespace GP
open Go Go.Proofs
open Rd O
set_option maxRecDepth 100000
def c10 : C :=
 (.seq (.reg [I1 1 (.box (t 0)),I1 2 (.mv KF)])
 (.seq (.seq (.reg [Ip 7 33 [],I1 8 (.un .not (t 7)),Im 9 8,I3 10 9 (.load true 3 (t 1)),I3 11 9 (.pcall (Kf 28) [(t 10)]),I3 12 9 (.un .not (t 11)),I1 13 (.pick (t 9) KT (t 12))])
 (.cond (t 13)
 (.seq (.reg [Ip 14 33 [],Im 2 14])
 .ret)
 .skip))
 (.seq (.reg [Ia 16 3 1,Ip 17 37 [(t 16)],Im 15 17,Ie 18 0 15,Ie 19 1 15,Im 3 18,Im 4 19])
 (.seq (.seq (.reg [Ia 20 3 1,Ip 21 29 [(t 20)],I1 22 (.un .not (t 21))])
 (.cond (t 22)
 (.seq (.reg [Im 23 4,I1 24 (.bin .eql (t 23) (Ki 2)),Im 25 24,Jm 26 25 true 3,I2 27 25 (.bin .eql (t 26) (Ks ([]))),I1 28 (.pick (t 25) (t 27) KF),Im 2 28])
 .ret)
 .skip))
 (.seq (.reg [Ia 30 3 1,Ip 31 38 [(t 30)],Im 29 31,Ie 32 0 29,Ie 33 1 29,Im 5 32,Im 6 33])
 (.seq (.seq (.reg [Im 34 6,I1 35 (.bin .gtr (t 34) (Ki 600)),Im 36 35,Jm 37 36 false 5,I3 38 36 (.lens (t 37)),I3 39 36 (.bin .gtr (t 38) (Ki 4096)),I1 40 (.pick (t 36) KT (t 39))])
 (.cond (t 40)
 (.seq (.reg [Im 41 4,I1 42 (.bin .eql (t 41) (Ki 3)),Im 43 42,Jm 44 43 true 3,I2 45 43 (.bin .eql (t 44) (Ks ([]))),I1 46 (.pick (t 43) (t 45) KF),Im 2 46])
 .ret)
 .skip))
 (.seq (.reg [Im 47 4,I1 48 (.bin .eql (t 47) (Ki 0)),Im 49 48,Jm 50 49 true 3,Jm 51 49 true 5,I2 52 49 (.bin .eql (t 50) (t 51)),I1 53 (.pick (t 49) (t 52) KF),Im 2 53])
 .ret)))))))
theorem fn10 : Fn Tryz.prog 10 54 [.inl 2] c10:=⟨⟨_,_,Tryz.func10,rfl,by kernel_rfl,Tryz.ntmps10,by kernel_rfl,Hq0,by kernel_rfl⟩⟩
def c39 : C :=
 (.seq (.reg [I1 2 (.box (t 0)),I1 4 (.mv (Ki 0))])
 (.seq (.reg [I1 5 (.mv (Ki 1))])
 (.seq (.seq (.reg [I1 6 (.mv (Ki 0))])
 (.block 0
 (.loop
 (.seq (.seq (.reg [Im 7 6,If 8 7 2,Il 9 8,Iz 10 9,I1 11 (.bin .lss (t 7) (t 10)),Im 12 11,Jm 13 12 true 5,Jm 14 12 true 1,I2 15 12 (.bin .leq (t 13) (t 14)),I1 16 (.pick (t 12) (t 15) KF)])
 (.cond (t 16)
 .skip
 (.exit 0)))
 (.seq (.block 1
 (.reg [Im 19 5,If 20 7 2,Il 21 20,Im 22 6,I1 23 (.iaddr 8 (t 21) (t 22)),Ia 24 8 23,Im 25 1,Im 26 5,I1 27 (.bin .sub (t 25) (t 26)),Ip 28 39 [(t 24),(t 27)],I1 29 (.bin .add (t 19) (t 28)),Im 5 29]))
 (.reg [Im 17 6,I1 18 (.bin .add (t 17) (Ki 1)),Im 6 18]))))))
 (.seq (.reg [Im 30 5,Im 4 30])
 .ret))))
theorem fn39 : Fn Tryz.prog 39 31 [.inl 4] c39:=⟨⟨_,_,Tryz.func39,rfl,by kernel_rfl,Tryz.ntmps39,by kernel_rfl,Hq1,by kernel_rfl⟩⟩
def c75 : C :=
 (.seq (.reg [I1 1 (.box (t 0)),I1 2 (.mv KN)])
 (.seq (.reg [If 12 0 1,Il 13 12,Ip 14 76 [(t 13)],Im 11 14,Ie 15 0 11,Ie 16 1 11,Im 3 15,Im 4 16])
 (.seq (.reg [I1 5 (.mv KN)])
 (.seq (.seq (.reg [If 17 7 1,Il 18 17,Iz 19 18,I1 20 (.mv (Ki 0))])
 (.block 0
 (.loop
 (.seq (.reg [I1 21 (.bin .lss (t 20) (t 19))])
 (.seq (.cond (t 21)
 .skip
 (.exit 0))
 (.seq (.block 1
 (.seq (.reg [Im 22 20,I1 23 (.iaddr 8 (t 18) (t 20)),Ia 24 8 23,I1 7 (.alloc [(.str []),(.int .i64 0),(.int .i64 0),(.str []),.nils,(.str []),(.str []),.nils]),Im 6 22,Is 8 7 24])
 (.seq (.reg [Ia 25 8 7,Ip 26 75 [(t 25)],Im 8 26])
 (.seq (.seq (.reg [If 28 0 7,Il 29 28,Ip 30 76 [(t 29)],Im 27 30,Ie 31 0 27,Ie 32 1 27,Im 9 31,Im 10 32])
 (.seq (.reg [Im 33 9,Im 34 4,Im 35 6,I1 36 (.iaddr 1 (t 34) (t 35)),Il 37 36,I1 38 (.bin .lss (t 33) (t 37))])
 (.cond (t 38)
 (.reg [Im 39 8,Ip 40 124 [(t 39)],Im 8 40])
 .skip)))
 (.reg [Im 41 5,Im 42 8,I1 43 (.bsl 1 [(t 42)]),I1 44 (.app false 1 24 (t 41) (t 43)),Im 5 44])))))
 (.reg [I1 45 (.bin .add (t 20) (Ki 1)),Im 20 45])))))))
 (.seq (.block 2
 (.seq (.reg [Im 47 5,Iz 48 47,I1 49 (.bin .eql (t 48) (Ki 0)),Im 46 49])
 (.cond (t 46)
 (.seq (.reg [Ia 50 8 1,Ip 51 125 [(t 50)],Im 2 51])
 .ret)
 (.seq (.reg [If 53 0 1,Il 54 53,I1 55 (.bin .eql (t 54) (Ks ([115,105,122,101]))),Im 52 55])
 (.cond (t 52)
 (.seq (.draw 0 [(I1 56 (.bslq 1 [(Ks ([115,105,122,101]))]),[]),(Ip 57 84 [(t 56)],[]),(Im 58 5,[]),(I1 59 (.iaddr 1 (t 58) (Ki 0)),[]),(Il 60 59,[]),(Ip 61 124 [(t 60)],[]),(I1 62 (.bslq 1 [(t 57),(t 61)]),[]),(Ip 63 85 [(t 62)],[]),(Im 2 63,[])])
 .ret)
 (.seq (.reg [If 65 0 1,Il 66 65,I1 67 (.bin .eql (t 66) (Ks ([110,101,103]))),Im 64 67])
 (.cond (t 64)
 (.seq (.draw 0 [(I1 68 (.bslq 1 [(Ks ([45]))]),[]),(Ip 69 84 [(t 68)],[]),(Im 70 5,[]),(I1 71 (.iaddr 1 (t 70) (Ki 0)),[]),(Il 72 71,[]),(I1 73 (.bslq 1 [(t 69),(t 72)]),[]),(Ip 74 85 [(t 73)],[]),(Im 2 74,[])])
 .ret)
 (.seq (.reg [If 76 0 1,Il 77 76,I1 78 (.bin .eql (t 77) (Ks ([110,111,116]))),Im 75 78])
 (.cond (t 75)
 (.seq (.draw 0 [(I1 79 (.bslq 1 [(Ks ([110,111,116]))]),[]),(Ip 80 84 [(t 79)],[]),(Im 81 5,[]),(I1 82 (.iaddr 1 (t 81) (Ki 0)),[]),(Il 83 82,[]),(I1 84 (.bslq 1 [(t 80),(t 83)]),[]),(Ip 85 85 [(t 84)],[]),(Im 2 85,[])])
 .ret)
 .skip)))))))))
 (.seq (.draw 0 [(Im 86 5,[]),(I1 87 (.iaddr 1 (t 86) (Ki 0)),[]),(Il 88 87,[]),(If 89 0 1,[]),(Il 90 89,[]),(I1 91 (.bslq 1 [(t 90)]),[]),(Ip 92 84 [(t 91)],[]),(Im 93 5,[]),(I1 94 (.iaddr 1 (t 93) (Ki 1)),[]),(Il 95 94,[]),(I1 96 (.bslq 1 [(t 88),(t 92),(t 95)]),[]),(Ip 97 85 [(t 96)],[]),(Im 2 97,[])])
 .ret))))))
theorem fn75 : Fn Tryz.prog 75 98 [.inl 2] c75:=⟨⟨_,_,Tryz.func75,rfl,by kernel_rfl,Tryz.ntmps75,by kernel_rfl,Hq1,by kernel_rfl⟩⟩
def c84 : C :=
 (.seq (.reg [I1 2 (.mv KN)])
 (.seq (.reg [I1 3 (.mv KN)])
 (.seq (.seq (.reg [Im 6 0,Iz 7 6,I1 8 (.mv (Ki 0))])
 (.block 0
 (.loop
 (.seq (.reg [I1 9 (.bin .lss (t 8) (t 7))])
 (.seq (.cond (t 9)
 .skip
 (.exit 0))
 (.seq (.block 1
 (.seq (.reg [I1 10 (.iaddr 1 (t 6) (t 8)),Il 11 10,Im 5 11])
 (.reg [Im 12 3,Im 13 5,Ip 14 87 [(t 13)],I1 15 (.bsl 3 [(t 14)]),I1 16 (.app false 3 32 (t 12) (t 15)),Im 3 16])))
 (.reg [I1 17 (.bin .add (t 8) (Ki 1)),Im 8 17])))))))
 (.seq (.reg [Im 18 3,Im 2 18])
 .ret))))
theorem fn84 : Fn Tryz.prog 84 19 [.inl 2] c84:=⟨⟨_,_,Tryz.func84,rfl,by kernel_rfl,Tryz.ntmps84,by kernel_rfl,Hq1,by kernel_rfl⟩⟩
def c108 : C :=
 (.seq (.reg [I1 2 (.box (t 0)),I1 4 (.mv KF)])
 (.seq (.seq (.reg [If 5 0 2,Il 6 5,I1 7 (.bin .eql (t 6) (Ki 2))])
 (.cond (t 7)
 (.seq (.reg [If 8 1 2,Il 9 8,I1 10 (.bin .geq (t 9) (Ki 0)),Im 11 10,Jm 12 11 false 1,Jm 13 11 false 12,Jf 14 13 true 1 2,Jl 15 13 true 14,I2 16 13 (.bin .gtr (t 15) (k (.int .i64 (-9223372036854775808)))),I3 17 11 (.pick (t 13) (t 16) KF),I1 18 (.pick (t 11) KT (t 17)),Im 4 18])
 .ret)
 .skip))
 (.seq (.reg [If 19 0 2,Il 20 19,I1 21 (.bin .eql (t 20) (Ki 1)),Im 22 21,Jf 23 22 false 0 2,Jl 24 22 false 23,I3 25 22 (.bin .eql (t 24) (Ki 4)),I1 26 (.pick (t 22) KT (t 25)),Im 27 26,Jf 28 27 false 0 2,Jl 29 27 false 28,I3 30 27 (.bin .eql (t 29) (Ki 3)),Jm 31 27 false 30,Jf 32 31 true 2 2,Jl 33 31 true 32,I2 34 31 (.build [(.int .i64 0),(.str []),(.int .i64 0)] [(0,1,(Ki 3)),(1,1,(t 33))]),I2 35 31 (.pcall (Kf 57) [(t 34)]),I3 36 27 (.pick (t 31) (t 35) KF),I1 37 (.pick (t 27) KT (t 36)),Im 4 37])
 .ret)))
theorem fn108 : Fn Tryz.prog 108 38 [.inl 4] c108:=⟨⟨_,_,Tryz.func108,rfl,by kernel_rfl,Tryz.ntmps108,by kernel_rfl,Hq1,by kernel_rfl⟩⟩
def c115 : C :=
 (.seq (.reg [I1 4 (.mv (Ki 0))])
 (.seq (.reg [Im 5 0,Im 6 1,Ip 7 176 [(t 5),(t 6)],Im 4 7])
 .ret))
theorem fn115 : Fn Tryz.prog 115 8 [.inl 4] c115:=⟨⟨_,_,Tryz.func115,rfl,by kernel_rfl,Tryz.ntmps115,by kernel_rfl,Hq1,by kernel_rfl⟩⟩
def c132 : C :=
 (.seq (.reg [I1 1 (.box (t 0)),I1 2 (.mv KF)])
 (.seq (.reg [Ia 3 4 1,Ip 4 130 [(t 3),(k (.int .i64 (-9223372036854775807)))],I1 5 (.un .not (t 4)),Im 2 5])
 .ret))
theorem fn132 : Fn Tryz.prog 132 6 [.inl 2] c132:=⟨⟨_,_,Tryz.func132,rfl,by kernel_rfl,Tryz.ntmps132,by kernel_rfl,Hq1,by kernel_rfl⟩⟩
def c135 : C :=
 (.seq (.reg [I1 3 (.box (t 1)),I1 4 (.mv KF)])
 (.seq (.seq (.reg [Im 5 0,I1 6 (.un .not (t 5))])
 (.cond (t 6)
 (.seq (.reg [Ia 7 8 3,Ip 8 181 [(t 7)],Im 4 8])
 .ret)
 .skip))
 (.seq (.reg [Ia 9 8 3,Ip 10 35 [(t 9)],Im 11 10,I2 12 11 (.load true 8 (t 3)),I2 13 11 (.pcall (Kf 26) [(t 12)]),I2 14 11 (.bin .leq (t 13) (Ki 12)),I1 15 (.pick (t 11) (t 14) KF),Im 4 15])
 .ret)))
theorem fn135 : Fn Tryz.prog 135 16 [.inl 4] c135:=⟨⟨_,_,Tryz.func135,rfl,by kernel_rfl,Tryz.ntmps135,by kernel_rfl,Hq1,by kernel_rfl⟩⟩
def c137 : C :=
 (.seq (.reg [I1 0 (.mv KN)])
 (.seq (.reg [I1 1 (.bsl 1 [(Ks ([])),(Ks ([116,114,117,116,104])),(Ks ([110,117,109,98,101,114])),(Ks ([116,101,120,116])),(Ks ([116,105,109,101]))]),Im 0 1])
 .ret))
theorem fn137 : Fn Tryz.prog 137 2 [.inl 0] c137:=⟨⟨_,_,Tryz.func137,rfl,by kernel_rfl,Tryz.ntmps137,by kernel_rfl,Hq1,by kernel_rfl⟩⟩
def c200 : C :=
 (.seq (.reg [I1 2 (.mv KF)])
 (.seq (.reg [Im 3 0,I1 4 (.bin .geq (t 3) (k (.int .u8 32))),Im 5 4,Jm 6 5 true 0,I2 7 5 (.bin .leq (t 6) (k (.int .u8 126))),I1 8 (.pick (t 5) (t 7) KF),Im 2 8])
 .ret))
theorem fn200 : Fn Tryz.prog 200 9 [.inl 2] c200:=⟨⟨_,_,Tryz.func200,rfl,by kernel_rfl,Tryz.ntmps200,by kernel_rfl,Hq1,by kernel_rfl⟩⟩
end GP
namespace GP
open Go
inductive Frz : D -> Hp -> D -> Hp -> Prop where
 | refl (r : D) (H : Hp) : Frz r H r H
 | step {r r2 : D} {H H2 : Hp} (o : Nat) (cs : List D) : H[o]? = some (.row cs) -> Frz (r.fz o cs) (H.set o .dead) r2 H2 -> Frz r H r2 H2
section
variable {P : Program}
theorem CallPost.frz {c : Cx} {w : World} {Q : Post} {e : Ending} {w' : World}
  (h : CallPost c w (fun r H' T'=>∃ r2 H2,Frz r H' r2 H2 /\ Q r2 H2 T') e w') : CallPost c w Q e w':=by
 obtain ⟨v,rfl,r,H',T',c',⟨r2,H2,hf,hq⟩,hrep,hinv,hle,hT',hbel⟩:=h
 suffices ∀ {r H' r2 H2},Frz r H' r2 H2 -> ∀ c' : Cx,Q r2 H2 T' -> Rep c' r v -> Inv c' w' H' -> c.le c' -> c'.T = T' -> CallPost c w Q (.returned v) w' from this hf c' hq hrep hinv hle hT'
 clear hf hq hrep hinv hle hT'
 intro r H' r2 H2 hf
 induction hf with
 | refl r H=>intro c' hq hrep hinv hle hT';exact ⟨v,rfl,r,H,T',c',hq,hrep,hinv,hle,hT',hbel⟩
 | step o cs ho _ ih =>
  intro c' hq hrep hinv hle hT'
  obtain ⟨vs,hv,hcell⟩:=hinv.row_at ho
  have hM:=(hinv.own o _ ho rfl).2.2.2
  exact ih (c'.fz o vs) hq (hrep.fz hv hM) (hinv.fz ho hcell) (hle.trans (fz_le hM)) hT'
def SameOb (x y : Ob) : Prop:=x = y ∨ ∃ cs,x = .row cs /\ y = .row (D.eraseL cs)
def SameH (Hm H1 : Hp) : Prop:=Hm.length = H1.length /\ ∀ (o : Nat) x y,Hm[o]? = some x -> H1[o]? = some y -> SameOb x y
theorem SameH.refl (H : Hp) : SameH H H:=⟨rfl,fun o x y h h'=>by rw [h] at h';injection h' with h';exact .inl h'⟩
theorem sameOb_live {x y : Ob} (h : SameOb x y) : x.live = y.live:=by
 rcases h with rfl | ⟨cs,rfl,rfl⟩ <;> rfl
def Crs (a b : D) : Prop:=∀ c v,Rep c a v -> Rep c b v
theorem Crs.refl (a : D) : Crs a a:=fun _ _ h=>h
theorem Crs.erase {a b : D} (h : a.erase = b) : Crs a b:=fun _ _ hr=>h ▸ hr.erase
theorem Crs.trans {a b d : D} (h : Crs a b) (k : Crs b d) : Crs a d:=fun c v hr=>k c v (h c v hr)
def LeavesE (r0 : D) (H1 : Hp) (T : Tk) : Post:=fun r H' T'=>∃ r2 H2,Frz r H' r2 H2 /\ Crs r2 r0 /\ (∃ Hm L,H2 = Hm ++ L /\ SameH Hm H1) /\ ∃ U,T' = T ++ U
def Closed (H H1 : Hp) (n : Nat) : Prop:=H.length <= H1.length /\ ∀ (o : Nat) x cs,H1[o]? = some x -> x.cells? = some cs -> H[o]? = some x ∨ D.clL H1.length n cs = true
theorem CallPost.forgetE {c : Cx} {w : World} {H H1 : Hp} {T : Tk} {Q : Post} (hi : Inv c w H) (hT : c.T = T) {r0 : D} (hcl : r0.cl H1.length T.length = true) (hC : Closed H H1 T.length) (hQ : Q r0 H1 T) {e : Ending} {w' : World}
  (h : CallPost c w (LeavesE r0 H1 T) e w') : CallPost c w Q e w':=by
 have h:=CallPost.frz (Q:=fun r2 H2 T'=>Crs r2 r0 /\ (∃ Hm L,H2 = Hm ++ L /\ SameH Hm H1) /\ ∃ U,T' = T ++ U) h
 obtain ⟨v,rfl,r,H',T',c',⟨hr,⟨Hm,L,rfl,hsl,hs⟩,⟨U,rfl⟩⟩,hrep,hinv,hle,hT',hbel⟩:=h
 have move : ∀ {d : D} {v : Value},Rep c' d v -> d.cl H1.length T.length = true -> Rep { c' with bd:=fun o=>c'.bd o && decide (o < H1.length),T:=T } d v:=fun {d v} hr hd =>
  hr.move (n:=H1.length) (m:=T.length) (c':={ c' with bd:=fun o=>c'.bd o && decide (o < H1.length),T:=T }) (fun _ _ h=>h) (fun o ho h=>by simp [h,ho]) (fun _ _=>rfl) (fun _ _=>rfl) (Nat.le_refl _) (fun τ hτ=>⟨by simp only;rw [hT',List.getElem?_append_left hτ],rfl⟩) hd
 refine ⟨v,rfl,r0,H1,T,{ c' with bd:=fun o=>c'.bd o && decide (o < H1.length),T:=T },hQ,?_,?_,?_,rfl,hbel⟩
 ·exact move (hr _ _ hrep) hcl
 ·have hlt : ∀ {o : Nat} {x : Ob},H1[o]? = some x -> o < H1.length:=fun {o x} h=>by
   rcases Nat.lt_or_ge o H1.length with h' | h'
   ·exact h'
   ·rw [List.getElem?_eq_none h'] at h;cases h
  have hget : ∀ {o : Nat} {x : Ob},H1[o]? = some x -> ∃ x',(Hm ++ L)[o]? = some x' /\ SameOb x' x:=fun {o x} h=>by
   have h1:=hlt h
   have h2 : o < Hm.length:=by omega
   refine ⟨Hm[o],by rw [List.getElem?_append_left h2,List.getElem?_eq_getElem h2],hs o _ _ (List.getElem?_eq_getElem h2) h⟩
  have htok : ∀ {τ : Nat} {x},T[τ]? = some x -> c'.T[τ]? = some x:=fun {τ x} h=>by
   have : τ < T.length:=by
    rcases Nat.lt_or_ge τ T.length with h' | h'
    ·exact h'
    ·rw [List.getElem?_eq_none h'] at h;cases h
   rw [hT',List.getElem?_append_left this];exact h
  refine ⟨hinv.keep,hinv.low,fun o x cs h hx=>?_,?_,fun o x h hx=>?_,fun o o' x x' h h' hx hx' he=>?_,fun o es h=>?_,fun o m l h=>?_,
   fun τ n z h=>hinv.tok τ n z (htok h),fun τ n z o x h h1 hx=>?_,fun τ n z τ' n' z' h h'=>hinv.toks τ n z τ' n' z' (htok h) (htok h')⟩
  ·obtain ⟨x',g1,g2⟩:=hget h
   have hclosed : D.clL H1.length T.length cs = true:=by
    rcases hC.2 o x cs h hx with h0 | h0
    ·obtain ⟨vs0,rest0,e0,fr0,q1,q2,q4,q3⟩:=(hi.row o x cs h0 hx).hold
     refine clL_of fun d hd=>?_
     obtain ⟨i,hi',rfl⟩:=List.getElem_of_mem hd
     rw [<- hT]
     refine (q2.rep i hi' (by rw [q2.len];exact hi')).cl fun o ho=>?_
     rcases Nat.lt_or_ge o H.length with h' | h'
     ·exact Nat.lt_of_lt_of_le h' hC.1
     ·rw [hi.free o (.inl h')] at ho;cases ho
    ·exact h0
   obtain ⟨vs,rest,e,fr,k1,k2,k4,k3⟩ : RowAt c' w' (c'.β o) (c'.sz o) cs:=by
    rcases g2 with rfl | ⟨cs',rfl,rfl⟩
    ·exact hinv.row o _ cs g1 hx
    ·simp only [Ob.cells?,Option.some.injEq] at hx
     subst hx
     obtain ⟨vs,rest,e,fr,k1,k2,k4,k3⟩:=hinv.row o _ cs' g1 rfl
     refine ⟨vs,rest,e,fr,k1,⟨by rw [eraseL_len];exact k2.len,fun d hd=>?_,fun i a b=>?_⟩,k4,k3⟩
     ·rw [eraseL_map] at hd
      obtain ⟨y,hy,rfl⟩:=List.mem_map.1 hd
      rw [erase_one];exact k2.one y hy
     ·have a' : i < cs'.length:=by rw [eraseL_len] at a;exact a
      rw [eraseL_get cs' i a'];exact (k2.rep i a' b).erase
   refine ⟨vs,rest,e,fr,k1,?_,k4,k3⟩
   exact ⟨k2.len,k2.one,fun i a b=>move (k2.rep i a b) (clL_mem hclosed _ (List.getElem_mem a))⟩
  ·intro o h
   rcases h with h | h
   ·have : ¬ o < H1.length:=by omega
    simp [this]
   ·obtain ⟨x',g1,g2⟩:=hget h
    have : x' = .hole:=by rcases g2 with rfl | ⟨cs,rfl,g⟩ <;> first | rfl | cases g
    subst this
    have:=hinv.free o (.inr g1)
    simp [this]
  ·obtain ⟨x',g1,g2⟩:=hget h
   obtain ⟨q1,q2,q3,q4⟩:=hinv.own o x' g1 (by rw [sameOb_live g2];exact hx)
   exact ⟨by simp [q1,hlt h],q2,q3,q4⟩
  ·obtain ⟨y,g1,g2⟩:=hget h
   obtain ⟨y',g1',g2'⟩:=hget h'
   exact hinv.apart o o' y y' g1 g1' (by rw [sameOb_live g2];exact hx) (by rw [sameOb_live g2'];exact hx') he
  ·obtain ⟨x',g1,g2⟩:=hget h
   have : x' = .map es:=by rcases g2 with rfl | ⟨cs,rfl,g⟩ <;> first | rfl | cases g
   subst this
   exact hinv.map o es g1
  ·obtain ⟨x',g1,g2⟩:=hget h
   have : x' = .iter m l:=by rcases g2 with rfl | ⟨cs,rfl,g⟩ <;> first | rfl | cases g
   subst this
   exact hinv.iter o m l g1
  ·obtain ⟨x',g1,g2⟩:=hget h1
   exact hinv.tokrow τ n z o x' (htok h) g1 (by rw [sameOb_live g2];exact hx)
 ·refine ⟨hle.M,fun o ho=>?_,fun o ho=>hle.β o ho,by simp [hT],fun τ h=>by simpa [<- hT] using h,fun τ n z h=>.inr ⟨n,by simpa [<- hT] using h,Nat.le_refl _,fun _=>?_⟩,hle.B,fun o ho=>?_⟩
  ·have : o < H1.length:=by
    rcases Nat.lt_or_ge o H.length with h' | h'
    ·exact Nat.lt_of_lt_of_le h' hC.1
    ·rw [hi.free o (.inl h')] at ho;cases ho
   simp [hle.bd o ho,this]
  ·rw [hT] at h
   have hlt : τ < T.length:=by
    rcases Nat.lt_or_ge τ T.length with h' | h'
    ·exact h'
    ·rw [List.getElem?_eq_none h'] at h;cases h
   have h2 : c'.T[τ]? = some (some (n,z)):=by rw [hT',List.getElem?_append_left hlt];exact h
   rcases hle.tok τ n z (by rw [hT];exact h) with k | ⟨n',k1,k2,k3⟩
   ·rw [k] at h2;cases h2
   ·rw [k1] at h2;injection h2 with h2;injection h2 with h2;injection h2 with h2 _
    exact k3 h2
  ·exact hle.sz o ho
variable [HasG P]
abbrev FsE:=List (FuncId × (Hp -> List D -> Option (D × Hp)))
def lookE : FsE -> Hp -> FuncId -> List D -> Option (D × Hp)
 | [],_,_,_=>none
 | (g,φ) :: l,H,f,a=>if f = g then φ H a else lookE l H f a
def inE : FsE -> FuncId -> Bool
 | [],_=>false
 | (g,_) :: l,f=>decide (f = g) || inE l f
theorem lookE_nil (H : Hp) (f : FuncId) (a : List D) : lookE [] H f a = none:=id rfl
theorem lookE_cons (g : FuncId) (φ : Hp -> List D -> Option (D × Hp)) (l : FsE) (H : Hp) (f : FuncId) (a : List D) : lookE ((g,φ) :: l) H f a = if f = g then φ H a else lookE l H f a:=id rfl
theorem inE_nil (f : FuncId) : inE [] f = false:=id rfl
theorem inE_cons (g : FuncId) (φ : Hp -> List D -> Option (D × Hp)) (l : FsE) (f : FuncId) : inE ((g,φ) :: l) f = (decide (f = g) || inE l f):=id rfl
theorem lookE_in : ∀ {l : FsE} {H : Hp} {f : FuncId} {a : List D},inE l f = false -> lookE l H f a = none
 | [],_,_,_,_=>rfl
 | (g,φ) :: l,H,f,a,h=>by
  simp only [inE,Bool.or_eq_false_iff,decide_eq_false_iff_not] at h
  simp only [lookE]
  rw [if_neg h.1];exact lookE_in h.2
def XE (l : Fs) (m : FsH) (e : FsE) : Pred:=fun f args H T Q=>match look l f (D.eraseL args) with
 | some r=>Q r H T
 | none=>match lookH m H f (D.eraseL args) with
  | some r=>Q r H T
  | none=>match lookE e H f (D.eraseL args) with
   | some (r,H')=>Q r H' T
   | none=>False
def OkAtE (P : Program) [HasG P] (f : FuncId) (φ : Hp -> List D -> Option (D × Hp)) : Prop:=∀ H args r H',φ H args = some (r,H') -> ∀ args',D.eraseL args' = args -> ∀ T (Q : Post),Q r H' T -> Snd P f args' H T Q
def OkE (P : Program) [HasG P] (m : FsE) : Prop:=∀ H f args r H',lookE m H f args = some (r,H') -> ∀ args',D.eraseL args' = args -> ∀ T (Q : Post),Q r H' T -> Snd P f args' H T Q
theorem OkE.nil : OkE P []:=fun _ _ _ _ _ h=>by simp [lookE] at h
theorem OkE.cons {f : FuncId} {φ : Hp -> List D -> Option (D × Hp)} {m : FsE} (h : OkAtE P f φ) (k : OkE P m) : OkE P ((f,φ) :: m):=by
 intro H g args r H' hr
 simp only [lookE] at hr
 split at hr
 ·rename_i e;subst e;exact h H args r H' hr
 ·exact k H g args r H' hr
theorem XE.X {l : Fs} {m : FsH} {e : FsE} (k : Ok P l) (k' : OkH P m) (k'' : OkE P e) : ∀ f args H T Q Q',(∀ r H T,Q r H T -> Q' r H T) -> XE l m e f args H T Q -> Snd P f args H T Q':=by
 intro f args H T Q Q' hQ h
 unfold XE at h
 split at h
 ·rename_i r hr
  exact k f _ r hr args rfl H T Q' (hQ _ _ _ h)
 ·split at h
  ·rename_i r hr
   exact k' H f _ r hr args rfl T Q' (hQ _ _ _ h)
  ·split at h
   ·rename_i r H' hr
    exact k'' H f _ r H' hr args rfl T Q' (hQ _ _ _ h)
   ·exact h.elim
def pcallN (X : Pred) (args : List D) (K : D -> S -> Prop) (s : S) (d : D) : Prop:=pcallK X args K s d
theorem pcallE {l : Fs} {m : FsH} {e : FsE} (hm : MonoH m) (args : List D) (K : D -> S -> Prop) (s : S) (f : FuncId) (first cap : List D) :
  pcallK (XE l m e) args K s (.fn f first cap) = if inE e f = true then pcallN (XE l m e) args K s (.fn f first cap) else orK K s (look l f (D.eraseL (first ++ args ++ cap))) (lookH m s.H f (D.eraseL (first ++ args ++ cap))):=by
 cases he : inE e f with
 | true=>rfl
 | false =>
  rw [if_neg (by simp)]
  have hx : ∀ a H T Q,XE l m e f a H T Q = XM l m f a H T Q:=by
   intro a H T Q
   unfold XE XM
   (rw [lookE_in he]) <;> rfl
  rw [<- pcallH hm]
  simp only [pcallK,eq_iff_iff]
  unfold Pure
  simp only [hx]
def orE (Q : Post) (T : Tk) : Option (D × Hp) -> Prop
 | some (r,H')=>Q r H' T
 | none=>False
def orX (Q : Post) (H : Hp) (T : Tk) : Option D -> Option D -> Option (D × Hp) -> Prop
 | some r,_,_=>Q r H T
 | none,some r,_=>Q r H T
 | none,none,x=>orE Q T x
theorem XE_eq (l : Fs) (m : FsH) (e : FsE) (f : FuncId) (args : List D) (H : Hp) (T : Tk) (Q : Post) : XE l m e f args H T Q = orX Q H T (look l f (D.eraseL args)) (lookH m H f (D.eraseL args)) (lookE e H f (D.eraseL args)):=by
 unfold XE
 cases look l f (D.eraseL args) with
 | some r=>rfl
 | none =>
  cases lookH m H f (D.eraseL args) with
  | some r=>rfl
  | none =>
   cases lookE e H f (D.eraseL args) with
   | some x=>rfl
   | none=>rfl
theorem orX_s (Q : Post) (H : Hp) (T : Tk) (r : D) (x : Option D) (y : Option (D × Hp)) : orX Q H T (some r) x y = Q r H T:=id rfl
theorem orX_n (Q : Post) (H : Hp) (T : Tk) (r : D) (y : Option (D × Hp)) : orX Q H T none (some r) y = Q r H T:=id rfl
theorem orX_e (Q : Post) (H : Hp) (T : Tk) (y : Option (D × Hp)) : orX Q H T none none y = orE Q T y:=id rfl
theorem orE_s (Q : Post) (T : Tk) (r : D) (H' : Hp) : orE Q T (some (r,H')) = Q r H' T:=id rfl
theorem leavesE_of {r0 r : D} {H H' : Hp} {T T' : Tk} (h : Leaves r0 H T r H' T') : LeavesE r0 H T r H' T':=by
 obtain ⟨h1,⟨L,h2⟩,h3⟩:=h
 exact ⟨r,H',.refl _ _,.erase h1,⟨H,L,h2,SameH.refl H⟩,h3⟩
theorem leavesE_mk {r0 r : D} {H H' : Hp} {T T' : Tk} (h1 : r.erase = r0) (h2 : ∃ L,H' = H ++ L) (h3 : ∃ U,T' = T ++ U) : LeavesE r0 H T r H' T':=leavesE_of ⟨h1,h2,h3⟩
theorem lvM {r0 r : D} {H H' : Hp} {T T' : Tk} (h1 : r.erase = r0:=by first | rfl | simp [D.erase,D.eraseL]) (h2 : ∃ L,H' = H ++ L:=by first | exact ⟨_,rfl⟩ | (refine ⟨[],?_⟩;simp;done)) (h3 : ∃ U,T' = T ++ U:=by first | exact ⟨_,rfl⟩ | (refine ⟨[],?_⟩;simp;done)) : LeavesE r0 H T r H' T':=leavesE_of ⟨h1,h2,h3⟩
theorem Closed.refl (H : Hp) (n : Nat) : Closed H H n:=⟨Nat.le_refl _,fun _ _ _ h _=>.inl h⟩
end
end GP
namespace GP
open Go Go.Proofs Go.Sort
section
variable {P : Program}
theorem Inv.grownB {b : Bool} {c : Cx} {w w' : World} {H : Hp} (k : Inv c w H) (hb : Below (b,w.heap.size) w w') : Inv c w' H:=by
 have lt : ∀ {a : Addr} {v : Value},w.cell? a = some v -> w'.cell? a = some v:=by
  intro a v h
  have hlt : a.block < w.heap.size:=by
   rcases Nat.lt_or_ge a.block w.heap.size with h' | h'
   ·exact h'
   ·simp [World.cell?,Array.getElem?_eq_none h'] at h
  unfold World.cell? at h ⊢
  rw [hb.block _ hlt];exact h
 refine ⟨fun a v h=>lt (k.keep a v h),Nat.le_trans k.low hb.size,?_,k.free,?_,k.apart,k.map,k.iter,?_,k.tokrow,k.toks⟩
 ·intro o x cs h1 h2
  obtain ⟨vs,rest,e,fr,h,g⟩:=(k.row o x cs h1 h2).hold
  have hlt : c.β o < w.heap.size:=by
   rcases Nat.lt_or_ge (c.β o) w.heap.size with h' | h'
   ·exact h'
   ·rw [Array.getElem?_eq_none h'] at h;cases h
  exact ⟨vs,rest,e,fr,by rw [hb.block _ hlt];exact h,g⟩
 ·intro o x h1 h2
  obtain ⟨a,b,d,e⟩:=k.own o x h1 h2
  exact ⟨a,b,Nat.lt_of_lt_of_le d hb.size,e⟩
 ·intro τ n z h
  obtain ⟨a,b,d,e,f⟩:=k.tok τ n z h
  refine ⟨a,Nat.lt_of_lt_of_le b hb.size,d,e,fun j h1 h2=>?_⟩
  obtain ⟨g1,g2,g3⟩:=f j h1 h2
  have hbl : w'.heap[(c.κ τ).1.block]? = w.heap[(c.κ τ).1.block]?:=hb.block _ b
  refine ⟨?_,?_,g3⟩
  ·rw [<- g1];unfold World.cell?;rw [hbl]
  ·rw [<- g2];unfold World.frozen?;rw [hbl]
variable [inst : HasG P]
end
end GP
namespace GP
open Go Go.Proofs
open Rd O
set_option maxRecDepth 100000
def c38 : C :=
 (.seq (.reg [I1 1 (.box (t 0)),I1 2 (.mv (Ks ([]))),I1 3 (.mv (Ki 0))])
 (.seq (.reg [Ia 9 3 1,Ip 10 30 [(t 9),KF],Im 4 10])
 (.seq (.reg [I1 5 (.mv (Ks ([])))])
 (.seq (.reg [I1 6 (.mv KF),I1 7 (.mv KT)])
 (.seq (.seq (.reg [I1 8 (.mv (Ki 0))])
 (.block 0
 (.loop
 (.seq (.seq (.reg [Im 11 8,Im 12 4,Iz 13 12,I1 14 (.bin .lss (t 11) (t 13))])
 (.cond (t 14)
 .skip
 (.exit 0)))
 (.seq (.block 1
 (.seq (.seq (.reg [Im 17 7,Im 18 17,Jm 19 18 true 6,I1 20 (.pick (t 18) (t 19) KF),Im 21 20,Jm 22 21 true 4,Jm 23 21 true 8,I2 24 21 (.iaddr 3 (t 22) (t 23)),I2 25 21 (.load true 3 (t 24)),I2 26 21 (.pcall (Kf 89) [(t 25),(Ks ([125]))]),I2 27 21 (.un .not (t 26)),I1 28 (.pick (t 21) (t 27) KF)])
 (.cond (t 28)
 (.reg [Im 29 5,I1 30 (.bin .add (t 29) (Ks ([32,32]))),Im 5 30])
 .skip))
 (.seq (.seq (.reg [Im 31 7,I1 32 (.un .not (t 31))])
 (.cond (t 32)
 (.reg [Im 33 5,I1 34 (.bin .add (t 33) (Ks ([32]))),Im 5 34])
 .skip))
 (.seq (.reg [Im 35 5,Im 36 4,Im 37 8,I1 38 (.iaddr 3 (t 36) (t 37)),Ia 39 3 38,Ip 40 90 [(t 39)],I1 41 (.bin .add (t 35) (t 40)),Im 5 41])
 (.seq (.reg [Im 42 4,Im 43 8,I1 44 (.iaddr 3 (t 42) (t 43)),Ia 45 3 44,Ip 46 89 [(t 45),(Ks ([59]))],Im 47 46,Jm 48 47 false 4,Jm 49 47 false 8,I3 50 47 (.iaddr 3 (t 48) (t 49)),I3 51 47 (.load true 3 (t 50)),I3 52 47 (.pcall (Kf 89) [(t 51),(Ks ([123]))]),I1 53 (.pick (t 47) KT (t 52)),Im 54 53,Jm 55 54 false 4,Jm 56 54 false 8,I3 57 54 (.iaddr 3 (t 55) (t 56)),I3 58 54 (.load true 3 (t 57)),I3 59 54 (.pcall (Kf 89) [(t 58),(Ks ([125]))]),I1 60 (.pick (t 54) KT (t 59)),Im 7 60])
 (.seq (.seq (.reg [Im 61 7])
 (.cond (t 61)
 (.reg [Im 62 5,I1 63 (.bin .add (t 62) (Ks ([10]))),Im 5 63])
 .skip))
 (.reg [Im 64 6,Im 65 64,Jm 66 65 true 4,Jm 67 65 true 8,I2 68 65 (.iaddr 3 (t 66) (t 67)),I2 69 65 (.load true 3 (t 68)),I2 70 65 (.pcall (Kf 89) [(t 69),(Ks ([125]))]),I2 71 65 (.un .not (t 70)),I1 72 (.pick (t 65) (t 71) KF),Im 73 72,Jm 74 73 false 4,Jm 75 73 false 8,I3 76 73 (.iaddr 3 (t 74) (t 75)),I3 77 73 (.load true 3 (t 76)),I3 78 73 (.pcall (Kf 89) [(t 77),(Ks ([123]))]),I1 79 (.pick (t 73) KT (t 78)),Im 6 79])))))))
 (.reg [Im 15 8,I1 16 (.bin .add (t 15) (Ki 1)),Im 8 16]))))))
 (.seq (.reg [Im 80 5,Im 81 4,Iz 82 81,Im 2 80,Im 3 82])
 .ret))))))
theorem fn38 : Fn Tryz.prog 38 83 [.inl 2,.inl 3] c38:=⟨⟨_,_,Tryz.func38,rfl,by kernel_rfl,Tryz.ntmps38,by kernel_rfl,Hq1,by kernel_rfl⟩⟩
def c77 : C :=
 (.seq (.reg [I1 1 (.box (t 0)),I1 2 (.mv KF)])
 (.seq (.seq (.reg [If 3 0 1,Il 4 3])
 (.block 0
 (.seq (.seq (.reg [I1 6 (.bin .eql (t 4) (Ks ([97,116,116,114]))),Im 5 6])
 (.cond (t 5)
 .skip
 (.reg [I1 7 (.bin .eql (t 4) (Ks ([104,97,115]))),Im 5 7])))
 (.cond (t 5)
 (.seq (.reg [If 8 5 1,Il 9 8,Ip 10 126 [(t 9)],Im 11 10,Jf 12 11 true 6 1,Jl 13 11 true 12,I2 14 11 (.pcall (Kf 127) [(t 13)]),I1 15 (.pick (t 11) (t 14) KF),Im 2 15])
 .ret)
 (.seq (.reg [I1 17 (.bin .eql (t 4) (Ks ([114,111,108,101]))),Im 16 17])
 (.cond (t 16)
 (.seq (.reg [If 18 5 1,Il 19 18,I1 20 (.bin .eql (t 19) (Ks ([]))),Im 21 20,Jf 22 21 true 6 1,Jl 23 21 true 22,I2 24 21 (.pcall (Kf 128) [(t 23)]),I1 25 (.pick (t 21) (t 24) KF),Im 2 25])
 .ret)
 .skip))))))
 (.seq (.reg [If 26 5 1,Il 27 26,I1 28 (.bin .eql (t 27) (Ks ([]))),Im 29 28,Jf 30 29 true 6 1,Jl 31 29 true 30,I2 32 29 (.bin .eql (t 31) (Ks ([]))),I1 33 (.pick (t 29) (t 32) KF),Im 2 33])
 .ret)))
theorem fn77 : Fn Tryz.prog 77 34 [.inl 2] c77:=⟨⟨_,_,Tryz.func77,rfl,by kernel_rfl,Tryz.ntmps77,by kernel_rfl,Hq1,by kernel_rfl⟩⟩
def c87 : C :=
 (.seq (.reg [I1 2 (.alloc [(.int .i64 0),(.str []),(.int .i64 0)])])
 (.seq (.seq (.reg [Im 3 0,Ip 4 134 [(t 3)]])
 (.cond (t 4)
 (.seq (.reg [Im 5 0,I1 6 (.build [(.int .i64 0),(.str []),(.int .i64 0)] [(0,1,(Ki 1)),(1,1,(t 5))]),Is 3 2 6])
 .ret)
 .skip))
 (.seq (.reg [Im 7 0,I1 8 (.build [(.int .i64 0),(.str []),(.int .i64 0)] [(0,1,(Ki 5)),(1,1,(t 7))]),Is 3 2 8])
 .ret)))
theorem fn87 : Fn Tryz.prog 87 9 [.inr (2,true,3)] c87:=⟨⟨_,_,Tryz.func87,rfl,by kernel_rfl,Tryz.ntmps87,by kernel_rfl,Hq1,by kernel_rfl⟩⟩
def c128 : C :=
 (.seq (.reg [I1 2 (.mv KF)])
 (.seq (.reg [Im 3 0,I1 4 (.build [(.int .i64 0),(.str []),(.int .i64 0)] [(0,1,(Ki 3)),(1,1,(t 3))]),Ip 5 166 [(t 4)],Im 2 5])
 .ret))
theorem fn128 : Fn Tryz.prog 128 6 [.inl 2] c128:=⟨⟨_,_,Tryz.func128,rfl,by kernel_rfl,Tryz.ntmps128,by kernel_rfl,Hq1,by kernel_rfl⟩⟩
def c133 : C :=
 (.seq (.reg [I1 4 (.mv (Ki 0))])
 (.seq (.seq (.reg [Im 6 0,Iz 7 6,I1 8 (.mv (Ki 0))])
 (.block 0
 (.loop
 (.seq (.reg [I1 9 (.bin .lss (t 8) (t 7))])
 (.seq (.cond (t 9)
 .skip
 (.exit 0))
 (.seq (.block 1
 (.seq (.reg [Im 10 8,Im 5 10])
 (.seq (.reg [Im 11 1,Im 12 0,Im 13 5,I1 14 (.iaddr 8 (t 12) (t 13)),Ia 15 8 14,I1 16 (.pcall (t 11) [(t 15)])])
 (.cond (t 16)
 (.seq (.reg [Im 17 5,Im 4 17])
 .ret)
 .skip))))
 (.reg [I1 18 (.bin .add (t 8) (Ki 1)),Im 8 18])))))))
 (.seq (.reg [I1 4 (.mv (k (.int .i64 (-1))))])
 .ret)))
theorem fn133 : Fn Tryz.prog 133 19 [.inl 4] c133:=⟨⟨_,_,Tryz.func133,rfl,by kernel_rfl,Tryz.ntmps133,by kernel_rfl,Hq1,by kernel_rfl⟩⟩
def c173 : C :=
 (.seq (.reg [I1 0 (.mv KN)])
 (.seq (.reg [I1 1 (.bsl 1 [(Ks ([123])),(Ks ([125])),(Ks ([40])),(Ks ([41])),(Ks ([91])),(Ks ([93])),(Ks ([59])),(Ks ([46])),(Ks ([44])),(Ks ([43])),(Ks ([45])),(Ks ([42])),(Ks ([60])),(Ks ([62])),(Ks ([61,61])),(Ks ([33,61])),(Ks ([60,61])),(Ks ([62,61]))]),Im 0 1])
 .ret))
theorem fn173 : Fn Tryz.prog 173 2 [.inl 0] c173:=⟨⟨_,_,Tryz.func173,rfl,by kernel_rfl,Tryz.ntmps173,by kernel_rfl,Hq1,by kernel_rfl⟩⟩
def c175 : C :=
 (.seq (.reg [I1 2 (.mv KF)])
 (.seq (.reg [Im 3 0,Im 4 0,I1 5 (.bin .neq (t 3) (t 4)),Im 2 5])
 .ret))
theorem fn175 : Fn Tryz.prog 175 6 [.inl 2] c175:=⟨⟨_,_,Tryz.func175,rfl,by kernel_rfl,Tryz.ntmps175,by kernel_rfl,Hq1,by kernel_rfl⟩⟩
def c179 : C :=
 (.seq (.reg [I1 1 (.box (t 0)),I1 2 (.mv KF)])
 (.seq (.seq (.reg [If 3 3 1,Il 4 3,Iz 5 4,I1 6 (.bin .gtr (t 5) (Ki 0)),Im 7 6,Jf 8 7 false 0 1,Jl 9 7 false 8,I3 10 7 (.bin .neq (t 9) (Ki 3)),Jm 11 7 false 10,Jf 12 11 true 2 1,Jl 13 11 true 12,I2 14 11 (.bin .neq (t 13) (Ks ([]))),I3 15 7 (.pick (t 11) (t 14) KF),I1 16 (.pick (t 7) KT (t 15))])
 (.cond (t 16)
 (.seq (.reg [I1 2 (.mv KF)])
 .ret)
 .skip))
 (.seq (.seq (.reg [If 17 0 1,Il 18 17])
 (.block 0
 (.seq (.reg [I1 20 (.bin .eql (t 18) (Ki 0)),Im 19 20])
 (.cond (t 19)
 (.seq (.reg [If 21 1 1,Il 22 21,I1 23 (.bin .eql (t 22) (Ki 0)),Im 2 23])
 .ret)
 (.seq (.reg [I1 25 (.bin .eql (t 18) (Ki 1)),Im 24 25])
 (.cond (t 24)
 (.seq (.reg [If 26 1 1,Il 27 26,I1 28 (.bin .eql (t 27) (Ki 0)),Im 29 28,Jf 30 29 false 1 1,Jl 31 29 false 30,I3 32 29 (.bin .eql (t 31) (Ki 1)),I1 33 (.pick (t 29) KT (t 32)),Im 2 33])
 .ret)
 (.seq (.reg [I1 35 (.bin .eql (t 18) (Ki 2)),Im 34 35])
 (.cond (t 34)
 (.seq (.reg [I1 2 (.mv KT)])
 .ret)
 (.seq (.reg [I1 37 (.bin .eql (t 18) (Ki 3)),Im 36 37])
 (.cond (t 36)
 (.seq (.reg [If 38 1 1,Il 39 38,I1 40 (.bin .eql (t 39) (Ki 0)),Im 41 40,Jf 42 41 true 2 1,Jl 43 41 true 42,I2 44 41 (.lens (t 43)),I2 45 41 (.bin .leq (t 44) (Ki 64)),I1 46 (.pick (t 41) (t 45) KF),Im 2 46])
 .ret)
 (.seq (.reg [I1 48 (.bin .eql (t 18) (Ki 4)),Im 47 48])
 (.cond (t 47)
 (.seq (.reg [If 49 1 1,Il 50 49,I1 51 (.bin .geq (t 50) (Ki 0)),Im 52 51,Jf 53 52 true 1 1,Jl 54 52 true 53,I2 55 52 (.bin .leq (t 54) (Ki 1099511627776)),I1 56 (.pick (t 52) (t 55) KF),Im 2 56])
 .ret)
 .skip))))))))))))
 (.seq (.reg [I1 2 (.mv KF)])
 .ret))))
theorem fn179 : Fn Tryz.prog 179 57 [.inl 2] c179:=⟨⟨_,_,Tryz.func179,rfl,by kernel_rfl,Tryz.ntmps179,by kernel_rfl,Hq1,by kernel_rfl⟩⟩
def c206 : C :=
 (.seq (.reg [I1 1 (.box (t 0)),I1 2 (.mv KN)])
 (.seq (.seq (.reg [If 3 0 1,Il 4 3])
 (.block 0
 (.seq (.reg [I1 6 (.bin .eql (t 4) (Ki 1)),Im 5 6])
 (.cond (t 5)
 (.seq (.reg [I1 7 (.bsl 1 [(Ks ([102,97,108,115,101])),(Ks ([116,114,117,101]))]),If 8 1 1,Il 9 8,I1 10 (.iaddr 1 (t 7) (t 9)),Il 11 10,I1 12 (.bsl 1 [(t 11)]),Ip 13 84 [(t 12)],Im 2 13])
 .ret)
 (.seq (.reg [I1 15 (.bin .eql (t 4) (Ki 3)),Im 14 15])
 (.cond (t 14)
 (.seq (.reg [If 16 2 1,Il 17 16,I1 18 (.build [(.int .i64 0),(.str []),(.int .i64 0)] [(0,1,(Ki 3)),(1,1,(t 17))]),I1 19 (.bsl 3 [(t 18)]),Im 2 19])
 .ret)
 (.seq (.reg [I1 21 (.bin .eql (t 4) (Ki 4)),Im 20 21])
 (.cond (t 20)
 (.seq (.reg [If 22 1 1,Il 23 22,I1 24 (.build [(.int .i64 0),(.str []),(.int .i64 0)] [(0,1,(Ki 4)),(2,1,(t 23))]),I1 25 (.bsl 3 [(t 24)]),Im 2 25])
 .ret)
 .skip))))))))
 (.seq (.seq (.reg [If 26 1 1,Il 27 26,I1 28 (.bin .lss (t 27) (Ki 0))])
 (.cond (t 28)
 (.seq (.draw 0 [(Ip 29 87 [(Ks ([45]))],[]),(If 30 1 1,[]),(Il 31 30,[]),(I1 32 (.un .neg (t 31)),[]),(I1 33 (.build [(.int .i64 0),(.str []),(.int .i64 0)] [(0,1,(Ki 2)),(2,1,(t 32))]),[]),(I1 34 (.bslq 3 [(t 29),(t 33)]),[]),(Im 2 34,[])])
 .ret)
 .skip))
 (.seq (.reg [If 35 1 1,Il 36 35,I1 37 (.build [(.int .i64 0),(.str []),(.int .i64 0)] [(0,1,(Ki 2)),(2,1,(t 36))]),I1 38 (.bsl 3 [(t 37)]),Im 2 38])
 .ret))))
theorem fn206 : Fn Tryz.prog 206 39 [.inl 2] c206:=⟨⟨_,_,Tryz.func206,rfl,by kernel_rfl,Tryz.ntmps206,by kernel_rfl,Hq1,by kernel_rfl⟩⟩
end GP
namespace GP
open Go Go.Proofs
open Rd O
set_option maxRecDepth 100000
def c16 : C :=
 (.seq (.reg [I1 0 (.mv KN)])
 (.seq (.reg [I1 1 (.bsl 1 [(Ks ([102,97,99,116])),(Ks ([116,114,117,116,104])),(Ks ([110,117,109,98,101,114])),(Ks ([116,101,120,116])),(Ks ([116,105,109,101])),(Ks ([98,97,103])),(Ks ([117,115,101])),(Ks ([112,111,108,105,99,121])),(Ks ([98,121])),(Ks ([102,111,114])),(Ks ([112,101,114,109,105,116])),(Ks ([100,101,110,121])),(Ks ([105,102])),(Ks ([100,117,116,121])),(Ks ([97,100,118,105,99,101])),(Ks ([116,114,117,101])),(Ks ([102,97,108,115,101])),(Ks ([110,111,119])),(Ks ([111,114])),(Ks ([97,110,100])),(Ks ([110,111,116])),(Ks ([105,110])),(Ks ([104,97,115])),(Ks ([114,111,108,101])),(Ks ([115,105,122,101])),(Ks ([115,117,98,106,101,99,116])),(Ks ([114,101,115,111,117,114,99,101])),(Ks ([97,99,116,105,111,110])),(Ks ([101,110,118]))]),Im 0 1])
 .ret))
theorem fn16 : Fn Tryz.prog 16 2 [.inl 0] c16:=⟨⟨_,_,Tryz.func16,rfl,by kernel_rfl,Tryz.ntmps16,by kernel_rfl,Hq1,by kernel_rfl⟩⟩
def c54 : C :=
 (.seq (.reg [I1 2 (.box (t 0)),I1 3 (.box (t 1)),I1 4 (.mv KF)])
 (.seq (.seq (.reg [If 8 0 2,Il 9 8,If 10 0 3,Il 11 10,I1 12 (.bin .neq (t 9) (t 11)),Im 13 12,Jf 14 13 false 1 2,Jl 15 13 false 14,Jf 16 13 false 1 3,Jl 17 13 false 16,I3 18 13 (.bin .neq (t 15) (t 17)),I1 19 (.pick (t 13) KT (t 18)),Im 20 19,Jf 21 20 false 2 2,Jl 22 20 false 21,Jf 23 20 false 2 3,Jl 24 20 false 23,I3 25 20 (.bin .neq (t 22) (t 24)),I1 26 (.pick (t 20) KT (t 25)),Im 27 26,Jf 28 27 false 3 2,Jl 29 27 false 28,I3 30 27 (.len (t 29)),Jf 31 27 false 3 3,Jl 32 27 false 31,I3 33 27 (.len (t 32)),I3 34 27 (.bin .neq (t 30) (t 33)),I1 35 (.pick (t 27) KT (t 34))])
 (.cond (t 35)
 (.seq (.reg [I1 4 (.mv KF)])
 .ret)
 .skip))
 (.seq (.seq (.reg [I1 5 (.mv (Ki 0))])
 (.block 0
 (.loop
 (.seq (.seq (.reg [Im 36 5,If 37 3 2,Il 38 37,Iz 39 38,I1 40 (.bin .lss (t 36) (t 39))])
 (.cond (t 40)
 .skip
 (.exit 0)))
 (.seq (.block 1
 (.seq (.draw 2 [(If 43 3 2,[]),(Il 44 43,[]),(Im 45 5,[]),(I1 46 (.iaddr 4 (t 44) (t 45)),[]),(Ia 47 4 46,[]),(If 48 3 3,[]),(Il 49 48,[]),(Im 50 5,[]),(I1 51 (.iaddr 4 (t 49) (t 50)),[]),(Ia 52 4 51,[]),(I1 6 (.rawAt 2 [(.int .i64 0),(.int .i64 0),(.str []),.nils]),[]),(I1 7 (.rawAt 1 [(.int .i64 0),(.int .i64 0),(.str []),.nils]),[]),(I4 (.fillAt 2 4 (t 6) (t 47)),[]),(I4 (.fillAt 1 4 (t 7) (t 52)),[])])
 (.seq (.reg [If 53 0 6,Il 54 53,If 55 0 7,Il 56 55,I1 57 (.bin .neq (t 54) (t 56)),Im 58 57,Jf 59 58 false 1 6,Jl 60 58 false 59,Jf 61 58 false 1 7,Jl 62 58 false 61,I3 63 58 (.bin .neq (t 60) (t 62)),I1 64 (.pick (t 58) KT (t 63)),Im 65 64,Jf 66 65 false 2 6,Jl 67 65 false 66,Jf 68 65 false 2 7,Jl 69 65 false 68,I3 70 65 (.bin .neq (t 67) (t 69)),I1 71 (.pick (t 65) KT (t 70)),Im 72 71,Jf 73 72 false 3 6,Jl 74 72 false 73,I3 75 72 (.len (t 74)),I3 76 72 (.bin .gtr (t 75) (Ki 0)),I1 77 (.pick (t 72) KT (t 76)),Im 78 77,Jf 79 78 false 3 7,Jl 80 78 false 79,I3 81 78 (.len (t 80)),I3 82 78 (.bin .gtr (t 81) (Ki 0)),I1 83 (.pick (t 78) KT (t 82))])
 (.cond (t 83)
 (.seq (.reg [I1 4 (.mv KF)])
 .ret)
 .skip))))
 (.reg [Im 41 5,I1 42 (.bin .add (t 41) (Ki 1)),Im 5 42]))))))
 (.seq (.reg [I1 4 (.mv KT)])
 .ret))))
theorem fn54 : Fn Tryz.prog 54 84 [.inl 4] c54:=⟨⟨_,_,Tryz.func54,rfl,by kernel_rfl,Tryz.ntmps54,by kernel_rfl,Hq1,by kernel_rfl⟩⟩
def c67 : C :=
 (.seq (.reg [I1 2 (.mv KF)])
 (.seq (.seq (.reg [I1 3 (.mv (Ki 0))])
 (.block 0
 (.loop
 (.seq (.seq (.reg [Im 4 3,Im 5 0,Iz 6 5,I1 7 (.bin .lss (t 4) (t 6))])
 (.cond (t 7)
 .skip
 (.exit 0)))
 (.seq (.block 1
 (.seq (.reg [Im 10 0,Im 11 3,I1 12 (.iaddr 1 (t 10) (t 11)),Il 13 12,I1 14 (.build [(.int .i64 0),(.str []),(.int .i64 0)] [(0,1,(Ki 3)),(1,1,(t 13))]),Ip 15 57 [(t 14)],I1 16 (.un .not (t 15))])
 (.cond (t 16)
 (.seq (.reg [I1 2 (.mv KF)])
 .ret)
 .skip)))
 (.reg [Im 8 3,I1 9 (.bin .add (t 8) (Ki 1)),Im 3 9]))))))
 (.seq (.reg [I1 2 (.mv KT)])
 .ret)))
theorem fn67 : Fn Tryz.prog 67 17 [.inl 2] c67:=⟨⟨_,_,Tryz.func67,rfl,by kernel_rfl,Tryz.ntmps67,by kernel_rfl,Hq1,by kernel_rfl⟩⟩
def c76 : C :=
 (.seq (.reg [I1 2 (.mv (Ki 0)),I1 3 (.mv KN)])
 (.seq (.seq (.reg [Im 4 0])
 (.block 0
 (.seq (.reg [I1 6 (.bin .eql (t 4) (Ks ([111,114]))),Im 5 6])
 (.cond (t 5)
 (.seq (.reg [I1 7 (.bsl 1 [(Ki 0),(Ki 1)]),I1 2 (.mv (Ki 0)),Im 3 7])
 .ret)
 (.seq (.reg [I1 9 (.bin .eql (t 4) (Ks ([97,110,100]))),Im 8 9])
 (.cond (t 8)
 (.seq (.reg [I1 10 (.bsl 1 [(Ki 1),(Ki 2)]),I1 2 (.mv (Ki 1)),Im 3 10])
 .ret)
 (.seq (.reg [I1 12 (.bin .eql (t 4) (Ks ([110,111,116]))),Im 11 12])
 (.cond (t 11)
 (.seq (.reg [I1 13 (.bsl 1 [(Ki 2)]),I1 2 (.mv (Ki 2)),Im 3 13])
 .ret)
 (.seq (.seq (.reg [I1 15 (.bin .eql (t 4) (Ks ([61,61]))),Im 14 15])
 (.cond (t 14)
 .skip
 (.seq (.reg [I1 16 (.bin .eql (t 4) (Ks ([33,61]))),Im 14 16])
 (.cond (t 14)
 .skip
 (.seq (.reg [I1 17 (.bin .eql (t 4) (Ks ([60]))),Im 14 17])
 (.cond (t 14)
 .skip
 (.seq (.reg [I1 18 (.bin .eql (t 4) (Ks ([60,61]))),Im 14 18])
 (.cond (t 14)
 .skip
 (.seq (.reg [I1 19 (.bin .eql (t 4) (Ks ([62]))),Im 14 19])
 (.cond (t 14)
 .skip
 (.seq (.reg [I1 20 (.bin .eql (t 4) (Ks ([62,61]))),Im 14 20])
 (.cond (t 14)
 .skip
 (.reg [I1 21 (.bin .eql (t 4) (Ks ([105,110]))),Im 14 21])))))))))))))
 (.cond (t 14)
 (.seq (.reg [I1 22 (.bsl 1 [(Ki 4),(Ki 4)]),I1 2 (.mv (Ki 3)),Im 3 22])
 .ret)
 (.seq (.seq (.reg [I1 24 (.bin .eql (t 4) (Ks ([43]))),Im 23 24])
 (.cond (t 23)
 .skip
 (.reg [I1 25 (.bin .eql (t 4) (Ks ([45]))),Im 23 25])))
 (.cond (t 23)
 (.seq (.reg [I1 26 (.bsl 1 [(Ki 4),(Ki 5)]),I1 2 (.mv (Ki 4)),Im 3 26])
 .ret)
 (.seq (.reg [I1 28 (.bin .eql (t 4) (Ks ([42]))),Im 27 28])
 (.cond (t 27)
 (.seq (.reg [I1 29 (.bsl 1 [(Ki 5),(Ki 6)]),I1 2 (.mv (Ki 5)),Im 3 29])
 .ret)
 (.seq (.reg [I1 31 (.bin .eql (t 4) (Ks ([110,101,103]))),Im 30 31])
 (.cond (t 30)
 (.seq (.reg [I1 32 (.bsl 1 [(Ki 6)]),I1 2 (.mv (Ki 6)),Im 3 32])
 .ret)
 (.seq (.reg [I1 34 (.bin .eql (t 4) (Ks ([115,105,122,101]))),Im 33 34])
 (.cond (t 33)
 (.seq (.reg [I1 35 (.bsl 1 [(Ki 0)]),I1 2 (.mv (Ki 7)),Im 3 35])
 .ret)
 (.seq (.seq (.reg [I1 37 (.bin .eql (t 4) (Ks ([118,97,108,117,101]))),Im 36 37])
 (.cond (t 36)
 .skip
 (.seq (.reg [I1 38 (.bin .eql (t 4) (Ks ([110,111,119]))),Im 36 38])
 (.cond (t 36)
 .skip
 (.seq (.reg [I1 39 (.bin .eql (t 4) (Ks ([97,116,116,114]))),Im 36 39])
 (.cond (t 36)
 .skip
 (.seq (.reg [I1 40 (.bin .eql (t 4) (Ks ([104,97,115]))),Im 36 40])
 (.cond (t 36)
 .skip
 (.reg [I1 41 (.bin .eql (t 4) (Ks ([114,111,108,101]))),Im 36 41])))))))))
 (.cond (t 36)
 (.seq (.reg [I1 2 (.mv (Ki 7)),I1 3 (.mv KN)])
 .ret)
 .skip))))))))))))))))))))
 (.seq (.reg [I1 2 (.mv (k (.int .i64 (-1)))),I1 3 (.mv KN)])
 .ret)))
theorem fn76 : Fn Tryz.prog 76 42 [.inl 2,.inl 3] c76:=⟨⟨_,_,Tryz.func76,rfl,by kernel_rfl,Tryz.ntmps76,by kernel_rfl,Hq1,by kernel_rfl⟩⟩
def c79 : C :=
 (.seq (.reg [I1 4 (.mv KF)])
 (.seq (.reg [Im 5 0,Im 6 1,Ip 7 133 [(t 5),(t 6)],I1 8 (.bin .geq (t 7) (Ki 0)),Im 4 8])
 .ret))
theorem fn79 : Fn Tryz.prog 79 9 [.inl 4] c79:=⟨⟨_,_,Tryz.func79,rfl,by kernel_rfl,Tryz.ntmps79,by kernel_rfl,Hq1,by kernel_rfl⟩⟩
def c126 : C :=
 (.seq (.reg [I1 2 (.mv KF)])
 (.seq (.reg [I1 3 (.bsl 1 [(Ks ([115,117,98,106,101,99,116])),(Ks ([114,101,115,111,117,114,99,101])),(Ks ([97,99,116,105,111,110])),(Ks ([101,110,118]))]),Im 4 0,Ip 5 47 [(t 3),(t 4)],Im 2 5])
 .ret))
theorem fn126 : Fn Tryz.prog 126 6 [.inl 2] c126:=⟨⟨_,_,Tryz.func126,rfl,by kernel_rfl,Tryz.ntmps126,by kernel_rfl,Hq1,by kernel_rfl⟩⟩
def c163 : C :=
 (.seq (.reg [I1 2 (.mv KF)])
 (.seq (.reg [Im 3 0,I1 4 (.bin .geq (t 3) (k (.int .u8 48))),Im 5 4,Jm 6 5 true 0,I2 7 5 (.bin .leq (t 6) (k (.int .u8 57))),I1 8 (.pick (t 5) (t 7) KF),Im 2 8])
 .ret))
theorem fn163 : Fn Tryz.prog 163 9 [.inl 2] c163:=⟨⟨_,_,Tryz.func163,rfl,by kernel_rfl,Tryz.ntmps163,by kernel_rfl,Hq1,by kernel_rfl⟩⟩
def c203 : C :=
 (.seq (.reg [I1 4 (.mv (Ki 0))])
 (.seq (.seq (.reg [Im 5 0,Im 6 1,I1 7 (.bin .lss (t 5) (t 6))])
 (.cond (t 7)
 (.seq (.reg [I1 4 (.mv (k (.int .i64 (-1))))])
 .ret)
 .skip))
 (.seq (.seq (.reg [Im 8 0,Im 9 1,I1 10 (.bin .gtr (t 8) (t 9))])
 (.cond (t 10)
 (.seq (.reg [I1 4 (.mv (Ki 1))])
 .ret)
 .skip))
 (.seq (.reg [I1 4 (.mv (Ki 0))])
 .ret))))
theorem fn203 : Fn Tryz.prog 203 11 [.inl 4] c203:=⟨⟨_,_,Tryz.func203,rfl,by kernel_rfl,Tryz.ntmps203,by kernel_rfl,Hq1,by kernel_rfl⟩⟩
end GP
namespace GP
open Go Go.Proofs
open Rd O
set_option maxRecDepth 100000
def c20 : C :=
 (.seq (.reg [I1 2 (.box (t 0)),I1 3 (.box (t 1)),I1 4 (.mv KF)])
 (.seq (.seq (.reg [If 6 0 2,Il 7 6,If 8 0 3,Il 9 8,I1 10 (.bin .neq (t 7) (t 9)),Im 11 10,Jf 12 11 false 5 2,Jl 13 11 false 12,Jf 14 11 false 5 3,Jl 15 11 false 14,I3 16 11 (.bin .neq (t 13) (t 15)),I1 17 (.pick (t 11) KT (t 16)),Im 18 17,Jf 19 18 false 6 2,Jl 20 18 false 19,Jf 21 18 false 6 3,Jl 22 18 false 21,I3 23 18 (.bin .neq (t 20) (t 22)),I1 24 (.pick (t 18) KT (t 23)),Im 25 24,I3 26 25 (.load true 8 (t 2)),I3 27 25 (.load true 8 (t 3)),I3 28 25 (.pcall (Kf 51) [(t 26),(t 27)]),I3 29 25 (.un .not (t 28)),I1 30 (.pick (t 25) KT (t 29)),Im 31 30,Jf 32 31 false 7 2,Jl 33 31 false 32,I3 34 31 (.len (t 33)),Jf 35 31 false 7 3,Jl 36 31 false 35,I3 37 31 (.len (t 36)),I3 38 31 (.bin .neq (t 34) (t 37)),I1 39 (.pick (t 31) KT (t 38))])
 (.cond (t 39)
 (.seq (.reg [I1 4 (.mv KF)])
 .ret)
 .skip))
 (.seq (.seq (.reg [I1 5 (.mv (Ki 0))])
 (.block 0
 (.loop
 (.seq (.seq (.reg [Im 40 5,If 41 7 2,Il 42 41,Iz 43 42,I1 44 (.bin .lss (t 40) (t 43))])
 (.cond (t 44)
 .skip
 (.exit 0)))
 (.seq (.block 1
 (.seq (.draw 0 [(If 47 7 2,[]),(Il 48 47,[]),(Im 49 5,[]),(I1 50 (.iaddr 8 (t 48) (t 49)),[]),(Ia 51 8 50,[]),(If 52 7 3,[]),(Il 53 52,[]),(Im 54 5,[]),(I1 55 (.iaddr 8 (t 53) (t 54)),[]),(Ia 56 8 55,[]),(Ip 57 20 [(t 51),(t 56)],[]),(I1 58 (.un .not (t 57)),[])])
 (.cond (t 58)
 (.seq (.reg [I1 4 (.mv KF)])
 .ret)
 .skip)))
 (.reg [Im 45 5,I1 46 (.bin .add (t 45) (Ki 1)),Im 5 46]))))))
 (.seq (.reg [I1 4 (.mv KT)])
 .ret))))
theorem fn20 : Fn Tryz.prog 20 59 [.inl 4] c20:=⟨⟨_,_,Tryz.func20,rfl,by kernel_rfl,Tryz.ntmps20,by kernel_rfl,Hq1,by kernel_rfl⟩⟩
def c28 : C :=
 (.seq (.reg [I1 1 (.box (t 0)),I1 2 (.mv KF)])
 (.seq (.seq (.reg [If 7 0 1,Il 8 7,Iz 9 8,I1 10 (.bin .gtr (t 9) (Ki 12)),Im 11 10,Jf 12 11 false 2 1,Jl 13 11 false 12,I3 14 11 (.len (t 13)),I3 15 11 (.bin .gtr (t 14) (Ki 6)),I1 16 (.pick (t 11) KT (t 15)),Im 17 16,Jf 18 17 false 1 1,Jl 19 17 false 18,I3 20 17 (.lens (t 19)),I3 21 17 (.bin .gtr (t 20) (Ki 200)),I1 22 (.pick (t 17) KT (t 21))])
 (.cond (t 22)
 (.seq (.reg [I1 2 (.mv KF)])
 .ret)
 .skip))
 (.seq (.seq (.reg [I1 3 (.mv (Ki 0))])
 (.block 0
 (.loop
 (.seq (.seq (.reg [Im 23 3,If 24 2 1,Il 25 24,Iz 26 25,I1 27 (.bin .lss (t 23) (t 26))])
 (.cond (t 27)
 .skip
 (.exit 0)))
 (.seq (.block 1
 (.seq (.reg [If 30 2 1,Il 31 30,Im 32 3,I1 33 (.iaddr 13 (t 31) (t 32)),Ia 34 13 33,I1 4 (.alloc [(.str []),(.str []),(.str []),(.bool false),(.str []),(.int .i64 0),(.int .i64 0),(.str []),.nils,(.str []),(.str []),.nils,.nils]),Is 13 4 34])
 (.seq (.seq (.reg [If 35 12 4,Il 36 35,Iz 37 36,I1 38 (.bin .gtr (t 37) (Ki 8)),Im 39 38,Jf 40 39 false 4 4,I3 41 39 (.load true 8 (t 40)),I3 42 39 (.pcall (Kf 25) [(t 41)]),I3 43 39 (.un .not (t 42)),I1 44 (.pick (t 39) KT (t 43))])
 (.cond (t 44)
 (.seq (.reg [I1 2 (.mv KF)])
 .ret)
 .skip))
 (.seq (.reg [I1 5 (.mv (Ki 0))])
 (.block 2
 (.loop
 (.seq (.seq (.reg [Im 45 5,If 46 12 4,Il 47 46,Iz 48 47,I1 49 (.bin .lss (t 45) (t 48))])
 (.cond (t 49)
 .skip
 (.exit 2)))
 (.seq (.block 3
 (.seq (.reg [If 52 12 4,Il 53 52,Im 54 5,I1 55 (.iaddr 13 (t 53) (t 54)),Ia 56 13 55,I1 6 (.alloc [(.bool false),(.str []),(.bool false),(.str []),(.int .i64 0),(.int .i64 0),(.str []),.nils,(.str []),(.str []),.nils,.nils,.nils]),Is 13 6 56])
 (.seq (.reg [If 57 3 6,Ia 58 8 57,Ip 59 25 [(t 58)],I1 60 (.un .not (t 59)),Im 61 60,Jf 62 61 false 11 6,Jl 63 61 false 62,I3 64 61 (.len (t 63)),I3 65 61 (.bin .gtr (t 64) (Ki 4)),I1 66 (.pick (t 61) KT (t 65)),Im 67 66,Jf 68 67 false 12 6,Jl 69 67 false 68,I3 70 67 (.len (t 69)),I3 71 67 (.bin .gtr (t 70) (Ki 4)),I1 72 (.pick (t 67) KT (t 71))])
 (.cond (t 72)
 (.seq (.reg [I1 2 (.mv KF)])
 .ret)
 .skip))))
 (.reg [Im 50 5,I1 51 (.bin .add (t 50) (Ki 1)),Im 5 51])))))))))
 (.reg [Im 28 3,I1 29 (.bin .add (t 28) (Ki 1)),Im 3 29]))))))
 (.seq (.reg [I1 2 (.mv KT)])
 .ret))))
theorem fn28 : Fn Tryz.prog 28 73 [.inl 2] c28:=⟨⟨_,_,Tryz.func28,rfl,by kernel_rfl,Tryz.ntmps28,by kernel_rfl,Hq1,by kernel_rfl⟩⟩
def c37 : C :=
 (.seq (.reg [I1 1 (.box (t 0)),I1 2 (.mv (Ks ([]))),I1 3 (.mv (Ki 0))])
 (.seq (.seq (.reg [Ia 12 3 1,Ip 13 81 [(t 12)],I1 14 (.un .not (t 13))])
 (.cond (t 14)
 (.seq (.reg [I1 2 (.mv (Ks ([]))),I1 3 (.mv (Ki 2))])
 .ret)
 .skip))
 (.seq (.reg [I1 4 (.alloc [.nils,(.int .i64 0)])])
 (.seq (.seq (.reg [If 15 0 1,Il 16 15,Iz 17 16,I1 18 (.mv (Ki 0))])
 (.block 0
 (.loop
 (.seq (.reg [I1 19 (.bin .lss (t 18) (t 17))])
 (.seq (.cond (t 19)
 .skip
 (.exit 0))
 (.seq (.block 1
 (.seq (.reg [I1 20 (.iaddr 4 (t 16) (t 18)),Ia 21 4 20,I1 6 (.alloc [(.str []),(.str []),(.int .i64 0),(.bool false)]),Is 4 6 21])
 (.reg [Ia 22 4 6,Ip 23 83 [(t 22)],Ic 24 82 [(t 4),(Ks ([])),(t 23)]])))
 (.reg [I1 25 (.bin .add (t 18) (Ki 1)),Im 18 25])))))))
 (.seq (.reg [If 26 1 1,Il 27 26,I1 28 (.bsl 1 [(Ks ([117,115,101])),(t 27),(Ks ([59]))]),Ip 29 84 [(t 28)],Ic 30 82 [(t 4),(Ks ([])),(t 29)]])
 (.seq (.seq (.reg [If 31 2 1,Il 32 31,Iz 33 32,I1 34 (.mv (Ki 0))])
 (.block 2
 (.loop
 (.seq (.reg [I1 35 (.bin .lss (t 34) (t 33))])
 (.seq (.cond (t 35)
 .skip
 (.exit 2))
 (.seq (.block 3
 (.seq (.reg [I1 36 (.iaddr 13 (t 32) (t 34)),Ia 37 13 36,I1 8 (.alloc [(.str []),(.str []),(.str []),(.bool false),(.str []),(.int .i64 0),(.int .i64 0),(.str []),.nils,(.str []),(.str []),.nils,.nils]),Is 13 8 37])
 (.seq (.reg [If 38 0 8,Il 39 38,If 40 1 8,Il 41 40,If 42 2 8,Il 43 42,I1 44 (.bsl 1 [(Ks ([112,111,108,105,99,121])),(t 39),(Ks ([98,121])),(t 41),(Ks ([117,115,101])),(t 43),(Ks ([123]))]),Ip 45 84 [(t 44)],Ic 46 82 [(t 4),(Ks ([])),(t 45)]])
 (.seq (.seq (.reg [If 47 3 8,Il 48 47])
 (.cond (t 48)
 (.draw 0 [(I1 49 (.bslq 1 [(Ks ([102,111,114]))]),[]),(Ip 50 84 [(t 49)],[]),(If 51 4 8,[]),(Ia 52 8 51,[]),(Ip 53 75 [(t 52)],[]),(I1 54 (.bslq 1 [(Ks ([59]))]),[]),(Ip 55 84 [(t 54)],[]),(I1 56 (.bslq 1 [(t 50),(t 53),(t 55)]),[]),(Ip 57 85 [(t 56)],[]),(Ic 58 82 [(t 4),(Ks ([32,32])),(t 57)],[])])
 .skip))
 (.seq (.seq (.reg [If 59 12 8,Il 60 59,Iz 61 60,I1 62 (.mv (Ki 0))])
 (.block 4
 (.loop
 (.seq (.reg [I1 63 (.bin .lss (t 62) (t 61))])
 (.seq (.cond (t 63)
 .skip
 (.exit 4))
 (.seq (.block 5
 (.seq (.reg [I1 64 (.iaddr 13 (t 60) (t 62)),Ia 65 13 64,I1 10 (.alloc [(.bool false),(.str []),(.bool false),(.str []),(.int .i64 0),(.int .i64 0),(.str []),.nils,(.str []),(.str []),.nils,.nils,.nils]),Is 13 10 65])
 (.reg [Ia 66 13 10,Ip 67 86 [(t 66)],Ic 68 82 [(t 4),(Ks ([32,32])),(t 67)]])))
 (.reg [I1 69 (.bin .add (t 62) (Ki 1)),Im 62 69])))))))
 (.reg [Ip 70 87 [(Ks ([125]))],I1 71 (.bsl 3 [(t 70)]),Ic 72 82 [(t 4),(Ks ([])),(t 71)]]))))))
 (.reg [I1 73 (.bin .add (t 34) (Ki 1)),Im 34 73])))))))
 (.seq (.reg [If 74 0 4,Il 75 74,Ip 76 88 [(t 75),(Ks ([]))],Im 11 76])
 (.seq (.seq (.reg [Im 77 11,I1 78 (.lens (t 77)),I1 79 (.bin .gtr (t 78) (Ki 4096)),Im 80 79,Jf 81 80 false 1 4,Jl 82 80 false 81,I3 83 80 (.bin .gtr (t 82) (Ki 600)),I1 84 (.pick (t 80) KT (t 83))])
 (.cond (t 84)
 (.seq (.reg [I1 2 (.mv (Ks ([]))),I1 3 (.mv (Ki 3))])
 .ret)
 .skip))
 (.seq (.reg [Im 85 11,Im 2 85,I1 3 (.mv (Ki 0))])
 .ret)))))))))
theorem fn37 : Fn Tryz.prog 37 86 [.inl 2,.inl 3] c37:=⟨⟨_,_,Tryz.func37,rfl,by kernel_rfl,Tryz.ntmps37,by kernel_rfl,Hq1,by kernel_rfl⟩⟩
def c46 : C :=
 (.seq (.reg [I1 2 (.mv (Ks ([])))])
 (.seq (.reg [I1 3 (.mv KN)])
 (.seq (.seq (.reg [Im 6 0,Iz 7 6,I1 8 (.mv (Ki 0))])
 (.block 0
 (.loop
 (.seq (.reg [I1 9 (.bin .lss (t 8) (t 7))])
 (.seq (.cond (t 9)
 .skip
 (.exit 0))
 (.seq (.block 1
 (.seq (.reg [I1 10 (.iaddr 3 (t 6) (t 8)),Ia 11 3 10,I1 5 (.alloc [(.int .i64 0),(.str []),(.int .i64 0)]),Is 3 5 11])
 (.reg [Im 12 3,Ia 13 3 5,Ip 14 101 [(t 13)],I1 15 (.bsl 1 [(t 14)]),I1 16 (.app false 1 16 (t 12) (t 15)),Im 3 16])))
 (.reg [I1 17 (.bin .add (t 8) (Ki 1)),Im 8 17])))))))
 (.seq (.reg [Im 18 3,Ip 19 88 [(t 18),(Ks ([32]))],Im 2 19])
 .ret))))
theorem fn46 : Fn Tryz.prog 46 20 [.inl 2] c46:=⟨⟨_,_,Tryz.func46,rfl,by kernel_rfl,Tryz.ntmps46,by kernel_rfl,Hq1,by kernel_rfl⟩⟩
def c57 : C :=
 (.seq (.reg [I1 1 (.box (t 0)),I1 2 (.mv KF)])
 (.seq (.seq (.reg [If 4 0 1,Il 5 4])
 (.block 0
 (.seq (.reg [I1 7 (.bin .eql (t 5) (Ki 1)),Im 6 7])
 (.cond (t 6)
 (.seq (.reg [If 8 1 1,Il 9 8,Ip 10 109 [(t 9)],Im 11 10,Jf 12 11 true 2 1,Jl 13 11 true 12,I2 14 11 (.bin .eql (t 13) (Ki 0)),I1 15 (.pick (t 11) (t 14) KF),Im 2 15])
 .ret)
 (.seq (.reg [I1 17 (.bin .eql (t 5) (Ki 2)),Im 16 17])
 (.cond (t 16)
 (.seq (.reg [If 18 1 1,Il 19 18,I1 20 (.bin .eql (t 19) (Ks ([]))),Im 21 20,Jf 22 21 true 2 1,Jl 23 21 true 22,I2 24 21 (.bin .geq (t 23) (Ki 0)),I1 25 (.pick (t 21) (t 24) KF),Im 2 25])
 .ret)
 (.seq (.reg [I1 27 (.bin .eql (t 5) (Ki 3)),Im 26 27])
 (.cond (t 26)
 (.seq (.seq (.reg [I1 3 (.mv (Ki 0))])
 (.block 1
 (.loop
 (.seq (.seq (.reg [Im 28 3,If 29 1 1,Il 30 29,I1 31 (.lens (t 30)),I1 32 (.bin .lss (t 28) (t 31))])
 (.cond (t 32)
 .skip
 (.exit 1)))
 (.seq (.block 2
 (.seq (.reg [If 35 1 1,Il 36 35,Im 37 3,I1 38 (.idxs (t 36) (t 37)),I1 39 (.bin .lss (t 38) (k (.int .u8 32))),Im 40 39,Jf 41 40 false 1 1,Jl 42 40 false 41,Jm 43 40 false 3,I3 44 40 (.idxs (t 42) (t 43)),I3 45 40 (.bin .gtr (t 44) (k (.int .u8 126))),I1 46 (.pick (t 40) KT (t 45))])
 (.cond (t 46)
 (.seq (.reg [I1 2 (.mv KF)])
 .ret)
 .skip)))
 (.reg [Im 33 3,I1 34 (.bin .add (t 33) (Ki 1)),Im 3 34]))))))
 (.seq (.reg [If 47 1 1,Il 48 47,I1 49 (.lens (t 48)),I1 50 (.bin .leq (t 49) (Ki 64)),Im 51 50,Jf 52 51 true 2 1,Jl 53 51 true 52,I2 54 51 (.bin .eql (t 53) (Ki 0)),I1 55 (.pick (t 51) (t 54) KF),Im 2 55])
 .ret))
 (.seq (.reg [I1 57 (.bin .eql (t 5) (Ki 4)),Im 56 57])
 (.cond (t 56)
 (.seq (.reg [If 58 1 1,Il 59 58,I1 60 (.bin .eql (t 59) (Ks ([]))),Im 61 60,Jf 62 61 true 2 1,Jl 63 61 true 62,I2 64 61 (.bin .geq (t 63) (Ki 0)),I1 65 (.pick (t 61) (t 64) KF),Im 66 65,Jf 67 66 true 2 1,Jl 68 66 true 67,I2 69 66 (.bin .leq (t 68) (Ki 1099511627776)),I1 70 (.pick (t 66) (t 69) KF),Im 2 70])
 .ret)
 (.seq (.reg [I1 72 (.bin .eql (t 5) (Ki 5)),Im 71 72])
 (.cond (t 71)
 (.seq (.reg [If 73 1 1,Il 74 73,Ip 75 110 [(t 74)],Im 76 75,Jf 77 76 true 2 1,Jl 78 76 true 77,I2 79 76 (.bin .eql (t 78) (Ki 0)),I1 80 (.pick (t 76) (t 79) KF),Im 2 80])
 .ret)
 .skip))))))))))))
 (.seq (.reg [I1 2 (.mv KF)])
 .ret)))
theorem fn57 : Fn Tryz.prog 57 81 [.inl 2] c57:=⟨⟨_,_,Tryz.func57,rfl,by kernel_rfl,Tryz.ntmps57,by kernel_rfl,Hq1,by kernel_rfl⟩⟩
def c60 : C :=
 (.seq (.reg [I1 2 (.alloc [(.int .i64 0),(.str []),(.int .i64 0)])])
 (.seq (.reg [Im 3 0,I1 4 (.build [(.int .i64 0),(.str []),(.int .i64 0)] [(0,1,(Ki 5)),(1,1,(t 3))]),Is 3 2 4])
 .ret))
theorem fn60 : Fn Tryz.prog 60 5 [.inr (2,true,3)] c60:=⟨⟨_,_,Tryz.func60,rfl,by kernel_rfl,Tryz.ntmps60,by kernel_rfl,Hq1,by kernel_rfl⟩⟩
def c63 : C :=
 (.seq (.reg [I1 1 (.box (t 0)),I1 2 (.mv KF)])
 (.seq (.seq (.reg [If 4 0 1,Il 5 4,I1 6 (.lens (t 5)),I1 7 (.bin .gtr (t 6) (Ki 200)),Im 8 7,Jf 9 8 false 5 1,Jl 10 8 false 9,I3 11 8 (.lens (t 10)),I3 12 8 (.bin .gtr (t 11) (Ki 200)),I1 13 (.pick (t 8) KT (t 12)),Im 14 13,Jf 15 14 false 6 1,Jl 16 14 false 15,I3 17 14 (.lens (t 16)),I3 18 14 (.bin .gtr (t 17) (Ki 200)),I1 19 (.pick (t 14) KT (t 18)),Im 20 19,Jf 21 20 false 1 1,I3 22 20 (.load true 4 (t 21)),I3 23 20 (.bsl 4 [(t 22)]),I3 24 20 (.pcall (Kf 111) [(t 23),(Ki 1)]),I3 25 20 (.un .not (t 24)),I1 26 (.pick (t 20) KT (t 25))])
 (.cond (t 26)
 (.seq (.reg [I1 2 (.mv KF)])
 .ret)
 .skip))
 (.seq (.seq (.reg [I1 3 (.mv (Ki 0))])
 (.block 0
 (.loop
 (.seq (.seq (.reg [Im 27 3,If 28 7 1,Il 29 28,Iz 30 29,I1 31 (.bin .lss (t 27) (t 30))])
 (.cond (t 31)
 .skip
 (.exit 0)))
 (.seq (.block 1
 (.seq (.reg [If 34 7 1,Il 35 34,Im 36 3,I1 37 (.iaddr 8 (t 35) (t 36)),Ia 38 8 37,Ip 39 63 [(t 38)],I1 40 (.un .not (t 39))])
 (.cond (t 40)
 (.seq (.reg [I1 2 (.mv KF)])
 .ret)
 .skip)))
 (.reg [Im 32 3,I1 33 (.bin .add (t 32) (Ki 1)),Im 3 33]))))))
 (.seq (.reg [I1 2 (.mv KT)])
 .ret))))
theorem fn63 : Fn Tryz.prog 63 41 [.inl 2] c63:=⟨⟨_,_,Tryz.func63,rfl,by kernel_rfl,Tryz.ntmps63,by kernel_rfl,Hq1,by kernel_rfl⟩⟩
def c86 : C :=
 (.seq (.reg [I1 1 (.box (t 0)),I1 2 (.mv KN)])
 (.seq (.reg [I1 3 (.mv (Ks ([100,101,110,121])))])
 (.seq (.seq (.reg [If 5 0 1,Il 6 5])
 (.cond (t 6)
 (.reg [I1 3 (.mv (Ks ([112,101,114,109,105,116])))])
 .skip))
 (.seq (.reg [Im 7 3,If 8 1 1,Il 9 8,I1 10 (.bsl 1 [(t 7),(t 9)]),Ip 11 84 [(t 10)],Im 4 11])
 (.seq (.seq (.reg [If 12 2 1,Il 13 12])
 (.cond (t 13)
 (.draw 0 [(Im 14 4,[]),(I1 15 (.bslq 1 [(Ks ([105,102]))]),[]),(Ip 16 84 [(t 15)],[]),(If 17 3 1,[]),(Ia 18 8 17,[]),(Ip 19 75 [(t 18)],[]),(I1 20 (.bslq 1 [(t 14),(t 16),(t 19)]),[]),(Ip 21 85 [(t 20)],[]),(Im 4 21,[])])
 .skip))
 (.seq (.draw 0 [(Im 22 4,[]),(If 23 11 1,[]),(Il 24 23,[]),(Ip 25 139 [(Ks ([100,117,116,121])),(t 24)],[]),(If 26 12 1,[]),(Il 27 26,[]),(Ip 28 139 [(Ks ([97,100,118,105,99,101])),(t 27)],[]),(I1 29 (.bslq 1 [(Ks ([59]))]),[]),(Ip 30 84 [(t 29)],[]),(I1 31 (.bslq 1 [(t 22),(t 25),(t 28),(t 30)]),[]),(Ip 32 85 [(t 31)],[]),(Im 2 32,[])])
 .ret))))))
theorem fn86 : Fn Tryz.prog 86 33 [.inl 2] c86:=⟨⟨_,_,Tryz.func86,rfl,by kernel_rfl,Tryz.ntmps86,by kernel_rfl,Hq1,by kernel_rfl⟩⟩
def c101 : C :=
 (.seq (.reg [I1 1 (.box (t 0)),I1 2 (.mv (Ks ([])))])
 (.seq (.seq (.reg [Ia 3 3 1,Ip 4 166 [(t 3)],I1 5 (.un .not (t 4))])
 (.cond (t 5)
 (.seq (.reg [I1 2 (.mv (Ks ([])))])
 .ret)
 .skip))
 (.seq (.seq (.reg [If 6 0 1,Il 7 6])
 (.block 0
 (.seq (.reg [I1 9 (.bin .eql (t 7) (Ki 2)),Im 8 9])
 (.cond (t 8)
 (.seq (.reg [If 10 2 1,Il 11 10,Ip 12 167 [(t 11),(Ki 10)],Im 2 12])
 .ret)
 (.seq (.reg [I1 14 (.bin .eql (t 7) (Ki 4)),Im 13 14])
 (.cond (t 13)
 (.seq (.reg [If 15 2 1,Il 16 15,Ip 17 167 [(t 16),(Ki 10)],I1 18 (.bin .add (Ks ([64])) (t 17)),Im 2 18])
 .ret)
 (.seq (.reg [I1 20 (.bin .eql (t 7) (Ki 3)),Im 19 20])
 (.cond (t 19)
 (.seq (.reg [If 21 1 1,Il 22 21,Ip 23 168 [(t 22)],Im 2 23])
 .ret)
 .skip))))))))
 (.seq (.reg [If 24 1 1,Il 25 24,Im 2 25])
 .ret))))
theorem fn101 : Fn Tryz.prog 101 26 [.inl 2] c101:=⟨⟨_,_,Tryz.func101,rfl,by kernel_rfl,Tryz.ntmps101,by kernel_rfl,Hq1,by kernel_rfl⟩⟩
def c102 : C :=
 (.seq (.reg [I1 4 (.mv (Ki 0))])
 (.seq (.seq (.reg [Im 6 0,Iz 7 6,I1 8 (.mv (Ki 0))])
 (.block 0
 (.loop
 (.seq (.reg [I1 9 (.bin .lss (t 8) (t 7))])
 (.seq (.cond (t 9)
 .skip
 (.exit 0))
 (.seq (.block 1
 (.seq (.reg [Im 10 8,Im 5 10])
 (.seq (.reg [Im 11 1,Im 12 0,Im 13 5,I1 14 (.iaddr 1 (t 12) (t 13)),Il 15 14,I1 16 (.bin .eql (t 11) (t 15))])
 (.cond (t 16)
 (.seq (.reg [Im 17 5,Im 4 17])
 .ret)
 .skip))))
 (.reg [I1 18 (.bin .add (t 8) (Ki 1)),Im 8 18])))))))
 (.seq (.reg [I1 4 (.mv (k (.int .i64 (-1))))])
 .ret)))
theorem fn102 : Fn Tryz.prog 102 19 [.inl 4] c102:=⟨⟨_,_,Tryz.func102,rfl,by kernel_rfl,Tryz.ntmps102,by kernel_rfl,Hq1,by kernel_rfl⟩⟩
def c109 : C :=
 (.seq (.reg [I1 2 (.mv KF)])
 (.seq (.seq (.reg [I1 3 (.mv (Ki 0))])
 (.block 0
 (.loop
 (.seq (.seq (.reg [Im 4 3,Im 5 0,I1 6 (.lens (t 5)),I1 7 (.bin .lss (t 4) (t 6))])
 (.cond (t 7)
 .skip
 (.exit 0)))
 (.seq (.block 1
 (.seq (.reg [Im 10 0,Im 11 3,I1 12 (.idxs (t 10) (t 11)),Ip 13 162 [(t 12)],I1 14 (.un .not (t 13)),Im 15 14,Jm 16 15 true 3,I2 17 15 (.bin .eql (t 16) (Ki 0)),Jm 18 15 true 17,Jm 19 18 false 0,Jm 20 18 false 3,I3 21 18 (.idxs (t 19) (t 20)),I3 22 18 (.pcall (Kf 163) [(t 21)]),I3 23 18 (.un .not (t 22)),Jm 24 18 false 23,Jm 25 24 true 0,Jm 26 24 true 3,I2 27 24 (.idxs (t 25) (t 26)),I2 28 24 (.bin .neq (t 27) (k (.int .u8 95))),I3 29 18 (.pick (t 24) (t 28) KF),I2 30 15 (.pick (t 18) KT (t 29)),I1 31 (.pick (t 15) (t 30) KF)])
 (.cond (t 31)
 (.seq (.reg [I1 2 (.mv KF)])
 .ret)
 .skip)))
 (.reg [Im 8 3,I1 9 (.bin .add (t 8) (Ki 1)),Im 3 9]))))))
 (.seq (.reg [Im 32 0,I1 33 (.lens (t 32)),I1 34 (.bin .gtr (t 33) (Ki 0)),Im 35 34,Jm 36 35 true 0,I2 37 35 (.lens (t 36)),I2 38 35 (.bin .leq (t 37) (Ki 64)),I1 39 (.pick (t 35) (t 38) KF),Im 2 39])
 .ret)))
theorem fn109 : Fn Tryz.prog 109 40 [.inl 2] c109:=⟨⟨_,_,Tryz.func109,rfl,by kernel_rfl,Tryz.ntmps109,by kernel_rfl,Hq1,by kernel_rfl⟩⟩
def c111 : C :=
 (.seq (.reg [I1 4 (.mv KF)])
 (.seq (.seq (.reg [I1 5 (.mv (Ki 0))])
 (.block 0
 (.loop
 (.seq (.seq (.reg [Im 7 5,Im 8 0,Iz 9 8,I1 10 (.bin .lss (t 7) (t 9)),Im 11 10,Jm 12 11 true 5,I2 13 11 (.bin .lss (t 12) (Ki 100)),I1 14 (.pick (t 11) (t 13) KF)])
 (.cond (t 14)
 .skip
 (.exit 0)))
 (.seq (.block 1
 (.seq (.seq (.reg [Im 17 0,Im 18 5,I1 19 (.iaddr 4 (t 17) (t 18)),If 20 2 19,Il 21 20,I1 22 (.lens (t 21)),I1 23 (.bin .gtr (t 22) (Ki 200)),Im 24 23,Jm 25 24 false 0,Jm 26 24 false 5,I3 27 24 (.iaddr 4 (t 25) (t 26)),Jf 28 24 false 3 27,Jl 29 24 false 28,I3 30 24 (.len (t 29)),I3 31 24 (.bin .gtr (t 30) (Ki 30)),I1 32 (.pick (t 24) KT (t 31))])
 (.cond (t 32)
 (.seq (.reg [I1 4 (.mv KF)])
 .ret)
 .skip))
 (.seq (.reg [I1 6 (.mv (Ki 0))])
 (.block 2
 (.loop
 (.seq (.seq (.reg [Im 33 6,Im 34 0,Im 35 5,I1 36 (.iaddr 4 (t 34) (t 35)),If 37 3 36,Il 38 37,Iz 39 38,I1 40 (.bin .lss (t 33) (t 39))])
 (.cond (t 40)
 .skip
 (.exit 2)))
 (.seq (.block 3
 (.seq (.reg [Im 43 0,Im 44 5,I1 45 (.iaddr 4 (t 43) (t 44)),If 46 3 45,Il 47 46,Im 48 6,I1 49 (.iaddr 4 (t 47) (t 48)),If 50 2 49,Il 51 50,I1 52 (.lens (t 51)),I1 53 (.bin .gtr (t 52) (Ki 200)),Im 54 53,Jm 55 54 false 0,Jm 56 54 false 5,I3 57 54 (.iaddr 4 (t 55) (t 56)),Jf 58 54 false 3 57,Jl 59 54 false 58,Jm 60 54 false 6,I3 61 54 (.iaddr 4 (t 59) (t 60)),Jf 62 54 false 3 61,Jl 63 54 false 62,I3 64 54 (.len (t 63)),I3 65 54 (.bin .gtr (t 64) (Ki 0)),I1 66 (.pick (t 54) KT (t 65))])
 (.cond (t 66)
 (.seq (.reg [I1 4 (.mv KF)])
 .ret)
 .skip)))
 (.reg [Im 41 6,I1 42 (.bin .add (t 41) (Ki 1)),Im 6 42]))))))))
 (.reg [Im 15 5,I1 16 (.bin .add (t 15) (Ki 1)),Im 5 16]))))))
 (.seq (.reg [Im 67 0,Iz 68 67,Im 69 1,I1 70 (.bin .leq (t 68) (t 69)),Im 4 70])
 .ret)))
theorem fn111 : Fn Tryz.prog 111 71 [.inl 4] c111:=⟨⟨_,_,Tryz.func111,rfl,by kernel_rfl,Tryz.ntmps111,by kernel_rfl,Hq1,by kernel_rfl⟩⟩
def c112 : C :=
 (.seq (.reg [I1 2 (.mv (Ki 0))])
 (.seq (.reg [I1 3 (.mv (Ki 0))])
 (.seq (.seq (.reg [Im 6 0,Iz 7 6,I1 8 (.mv (Ki 0))])
 (.block 0
 (.loop
 (.seq (.reg [I1 9 (.bin .lss (t 8) (t 7))])
 (.seq (.cond (t 9)
 .skip
 (.exit 0))
 (.seq (.block 1
 (.seq (.reg [I1 10 (.iaddr 1 (t 6) (t 8)),Il 11 10,Im 5 11])
 (.seq (.reg [Im 12 5,Im 13 3,I1 14 (.bin .neq (t 12) (t 13))])
 (.cond (t 14)
 (.seq (.reg [Im 15 5,Im 2 15])
 .ret)
 .skip))))
 (.reg [I1 16 (.bin .add (t 8) (Ki 1)),Im 8 16])))))))
 (.seq (.reg [Im 17 3,Im 2 17])
 .ret))))
theorem fn112 : Fn Tryz.prog 112 18 [.inl 2] c112:=⟨⟨_,_,Tryz.func112,rfl,by kernel_rfl,Tryz.ntmps112,by kernel_rfl,Hq1,by kernel_rfl⟩⟩
def c114 : C :=
 (.seq (.reg [I1 4 (.mv (Ki 0))])
 (.seq (.reg [Im 7 0,Ip 8 175 [(t 7)],Im 5 8])
 (.seq (.reg [Im 9 1,Ip 10 175 [(t 9)],Im 6 10])
 (.seq (.seq (.reg [Im 11 5])
 (.cond (t 11)
 (.seq (.seq (.reg [Im 12 6])
 (.cond (t 12)
 (.seq (.reg [I1 4 (.mv (Ki 0))])
 .ret)
 .skip))
 (.seq (.reg [I1 4 (.mv (k (.int .i64 (-1))))])
 .ret))
 .skip))
 (.seq (.seq (.reg [Im 13 6])
 (.cond (t 13)
 (.seq (.reg [I1 4 (.mv (Ki 1))])
 .ret)
 .skip))
 (.seq (.seq (.reg [Im 14 0,Im 15 1,I1 16 (.bin .lss (t 14) (t 15))])
 (.cond (t 16)
 (.seq (.reg [I1 4 (.mv (k (.int .i64 (-1))))])
 .ret)
 .skip))
 (.seq (.seq (.reg [Im 17 0,Im 18 1,I1 19 (.bin .gtr (t 17) (t 18))])
 (.cond (t 19)
 (.seq (.reg [I1 4 (.mv (Ki 1))])
 .ret)
 .skip))
 (.seq (.reg [I1 4 (.mv (Ki 0))])
 .ret))))))))
theorem fn114 : Fn Tryz.prog 114 20 [.inl 4] c114:=⟨⟨_,_,Tryz.func114,rfl,by kernel_rfl,Tryz.ntmps114,by kernel_rfl,Hq1,by kernel_rfl⟩⟩
def c168 : C :=
 (.seq (.reg [I1 2 (.mv (Ks ([])))])
 (.seq (.reg [I1 5 (.bsl 1 [(k (.int .u8 34))]),Im 3 5])
 (.seq (.seq (.reg [Im 6 0,I1 7 (.lens (t 6)),I1 8 (.mv (Ki 0))])
 (.block 0
 (.loop
 (.seq (.reg [I1 9 (.bin .lss (t 8) (t 7))])
 (.seq (.cond (t 9)
 .skip
 (.exit 0))
 (.seq (.block 1
 (.seq (.reg [Im 10 8,Im 4 10])
 (.seq (.seq (.reg [Im 11 0,Im 12 4,I1 13 (.idxs (t 11) (t 12)),I1 14 (.bin .eql (t 13) (k (.int .u8 34))),Im 15 14,Jm 16 15 false 0,Jm 17 15 false 4,I3 18 15 (.idxs (t 16) (t 17)),I3 19 15 (.bin .eql (t 18) (k (.int .u8 92))),I1 20 (.pick (t 15) KT (t 19))])
 (.cond (t 20)
 (.reg [Im 21 3,I1 22 (.bsl 1 [(k (.int .u8 92))]),I1 23 (.app false 1 1 (t 21) (t 22)),Im 3 23])
 .skip))
 (.reg [Im 24 3,Im 25 0,Im 26 4,I1 27 (.idxs (t 25) (t 26)),I1 28 (.bsl 1 [(t 27)]),I1 29 (.app false 1 1 (t 24) (t 28)),Im 3 29]))))
 (.reg [I1 30 (.bin .add (t 8) (Ki 1)),Im 8 30])))))))
 (.seq (.reg [Im 31 3,I1 32 (.bsl 1 [(k (.int .u8 34))]),I1 33 (.app false 1 1 (t 31) (t 32)),I1 34 (.b2s (t 33)),Im 2 34])
 .ret))))
theorem fn168 : Fn Tryz.prog 168 35 [.inl 2] c168:=⟨⟨_,_,Tryz.func168,rfl,by kernel_rfl,Tryz.ntmps168,by kernel_rfl,Hq1,by kernel_rfl⟩⟩
def c199 : C :=
 (.seq (.reg [I1 2 (.mv KF)])
 (.seq (.reg [Im 3 0,Ip 4 147 [(t 3)],Im 5 4,Jm 6 5 false 0,I3 7 5 (.pcall (Kf 148) [(t 6)]),I1 8 (.pick (t 5) KT (t 7)),Im 2 8])
 .ret))
theorem fn199 : Fn Tryz.prog 199 9 [.inl 2] c199:=⟨⟨_,_,Tryz.func199,rfl,by kernel_rfl,Tryz.ntmps199,by kernel_rfl,Hq1,by kernel_rfl⟩⟩
end GP
namespace GP
open Go Go.Proofs
open Rd O
set_option maxRecDepth 100000
def c22 : C :=
 (.seq (.reg [I1 1 (.box (t 0)),I1 2 (.mv (Ki 0))])
 (.seq (.reg [I1 3 (.mv (Ki 1))])
 (.seq (.seq (.reg [I1 4 (.mv (Ki 0))])
 (.block 0
 (.loop
 (.seq (.seq (.reg [Im 5 4,If 6 7 1,Il 7 6,Iz 8 7,I1 9 (.bin .lss (t 5) (t 8))])
 (.cond (t 9)
 .skip
 (.exit 0)))
 (.seq (.block 1
 (.reg [Im 12 3,If 13 7 1,Il 14 13,Im 15 4,I1 16 (.iaddr 8 (t 14) (t 15)),Ia 17 8 16,Ip 18 22 [(t 17)],I1 19 (.bin .add (Ki 1) (t 18)),I1 20 (.mx (t 12) (t 19)),Im 3 20]))
 (.reg [Im 10 4,I1 11 (.bin .add (t 10) (Ki 1)),Im 4 11]))))))
 (.seq (.reg [Im 21 3,Im 2 21])
 .ret))))
theorem fn22 : Fn Tryz.prog 22 22 [.inl 2] c22:=⟨⟨_,_,Tryz.func22,rfl,by kernel_rfl,Tryz.ntmps22,by kernel_rfl,Hq1,by kernel_rfl⟩⟩
def c30 : C :=
 (.seq (.reg [I1 2 (.box (t 0)),I1 4 (.mv KN)])
 (.seq (.reg [I1 5 (.mv KN)])
 (.seq (.seq (.reg [I1 6 (.mv (Ki 0))])
 (.block 0
 (.loop
 (.seq (.seq (.reg [Im 11 6,If 12 0 2,Il 13 12,Iz 14 13,I1 15 (.bin .lss (t 11) (t 14))])
 (.cond (t 15)
 .skip
 (.exit 0)))
 (.seq (.block 1
 (.seq (.reg [If 18 0 2,Il 19 18,Im 20 6,I1 21 (.iaddr 4 (t 19) (t 20)),Ia 22 4 21,I1 7 (.alloc [(.str []),(.str []),(.int .i64 0),(.bool false)]),Is 4 7 22])
 (.seq (.draw 0 [(Im 23 5,[]),(Ip 24 59 [(Ks ([102,97,99,116]))],[]),(If 25 0 7,[]),(Il 26 25,[]),(Ip 27 59 [(t 26)],[]),(Ip 28 60 [(Ks ([46]))],[]),(If 29 1 7,[]),(Il 30 29,[]),(Ip 31 59 [(t 30)],[]),(I1 32 (.build [(.str []),(.str []),(.str []),(.str []),(.str [])] [(0,1,(Ks ([]))),(1,1,(Ks ([116,114,117,116,104]))),(2,1,(Ks ([110,117,109,98,101,114]))),(3,1,(Ks ([116,101,120,116]))),(4,1,(Ks ([116,105,109,101])))]),[]),(If 33 2 7,[]),(Il 34 33,[]),(I1 35 (.idxa false 1 5 (t 32) (t 34)),[]),(Ip 36 59 [(t 35)],[]),(I1 37 (.bslq 3 [(t 24),(t 27),(t 28),(t 31),(t 36)]),[]),(I1 38 (.app false 3 32 (t 23) (t 37)),[]),(Im 5 38,[])])
 (.seq (.seq (.reg [If 39 3 7,Il 40 39])
 (.cond (t 40)
 (.reg [Im 41 5,Ip 42 59 [(Ks ([98,97,103]))],I1 43 (.bsl 3 [(t 42)]),I1 44 (.app false 3 32 (t 41) (t 43)),Im 5 44])
 .skip))
 (.reg [Im 45 5,Ip 46 60 [(Ks ([59]))],I1 47 (.bsl 3 [(t 46)]),I1 48 (.app false 3 32 (t 45) (t 47)),Im 5 48])))))
 (.reg [Im 16 6,I1 17 (.bin .add (t 16) (Ki 1)),Im 6 17]))))))
 (.seq (.draw 0 [(Im 49 5,[]),(Ip 50 59 [(Ks ([117,115,101]))],[]),(If 51 1 2,[]),(Il 52 51,[]),(Ip 53 59 [(t 52)],[]),(Ip 54 60 [(Ks ([59]))],[]),(I1 55 (.bslq 3 [(t 50),(t 53),(t 54)]),[]),(I1 56 (.app false 3 32 (t 49) (t 55)),[]),(Im 5 56,[])])
 (.seq (.seq (.reg [I1 8 (.mv (Ki 0))])
 (.block 2
 (.loop
 (.seq (.seq (.reg [Im 57 8,If 58 2 2,Il 59 58,Iz 60 59,I1 61 (.bin .lss (t 57) (t 60))])
 (.cond (t 61)
 .skip
 (.exit 2)))
 (.seq (.block 3
 (.seq (.reg [If 64 2 2,Il 65 64,Im 66 8,I1 67 (.iaddr 13 (t 65) (t 66)),Ia 68 13 67,I1 9 (.alloc [(.str []),(.str []),(.str []),(.bool false),(.str []),(.int .i64 0),(.int .i64 0),(.str []),.nils,(.str []),(.str []),.nils,.nils]),Is 13 9 68])
 (.seq (.draw 0 [(Im 69 5,[]),(Ip 70 59 [(Ks ([112,111,108,105,99,121]))],[]),(If 71 0 9,[]),(Il 72 71,[]),(Ip 73 59 [(t 72)],[]),(Ip 74 59 [(Ks ([98,121]))],[]),(If 75 1 9,[]),(Il 76 75,[]),(Ip 77 59 [(t 76)],[]),(Ip 78 59 [(Ks ([117,115,101]))],[]),(If 79 2 9,[]),(Il 80 79,[]),(Ip 81 59 [(t 80)],[]),(Ip 82 60 [(Ks ([123]))],[]),(I1 83 (.bslq 3 [(t 70),(t 73),(t 74),(t 77),(t 78),(t 81),(t 82)]),[]),(I1 84 (.app false 3 32 (t 69) (t 83)),[]),(Im 5 84,[])])
 (.seq (.seq (.reg [If 85 3 9,Il 86 85])
 (.cond (t 86)
 (.seq (.reg [Im 87 5,Ip 88 59 [(Ks ([102,111,114]))],I1 89 (.bsl 3 [(t 88)]),I1 90 (.app false 3 32 (t 87) (t 89)),Im 5 90])
 (.seq (.reg [Im 91 5,If 92 4 9,Ia 93 8 92,Im 94 1,Ip 95 24 [(t 93),(t 94)],I1 96 (.app false 3 32 (t 91) (t 95)),Im 5 96])
 (.reg [Im 97 5,Ip 98 60 [(Ks ([59]))],I1 99 (.bsl 3 [(t 98)]),I1 100 (.app false 3 32 (t 97) (t 99)),Im 5 100])))
 .skip))
 (.seq (.seq (.reg [I1 10 (.mv (Ki 0))])
 (.block 4
 (.loop
 (.seq (.seq (.reg [Im 101 10,If 102 12 9,Il 103 102,Iz 104 103,I1 105 (.bin .lss (t 101) (t 104))])
 (.cond (t 105)
 .skip
 (.exit 4)))
 (.seq (.block 5
 (.reg [Im 108 5,If 109 12 9,Il 110 109,Im 111 10,I1 112 (.iaddr 13 (t 110) (t 111)),Ia 113 13 112,Im 114 1,Ip 115 68 [(t 113),(t 114)],I1 116 (.app false 3 32 (t 108) (t 115)),Im 5 116]))
 (.reg [Im 106 10,I1 107 (.bin .add (t 106) (Ki 1)),Im 10 107]))))))
 (.reg [Im 117 5,Ip 118 60 [(Ks ([125]))],I1 119 (.bsl 3 [(t 118)]),I1 120 (.app false 3 32 (t 117) (t 119)),Im 5 120]))))))
 (.reg [Im 62 8,I1 63 (.bin .add (t 62) (Ki 1)),Im 8 63]))))))
 (.seq (.reg [Im 121 5,Im 4 121])
 .ret))))))
theorem fn30 : Fn Tryz.prog 30 122 [.inl 4] c30:=⟨⟨_,_,Tryz.func30,rfl,by kernel_rfl,Tryz.ntmps30,by kernel_rfl,Hq1,by kernel_rfl⟩⟩
def c33 : C :=
 (.seq (.reg [I1 0 (.mv KF)])
 (.seq (.reg [I1 4 (.build [.nils,(.str []),.nils] [(1,1,(Ks ([102,105,114,115,116])))]),Ip 5 37 [(t 4)],Im 3 5,Ie 6 0 3,Ie 7 1 3,Im 1 6,Im 2 7])
 (.seq (.reg [Im 8 2,I1 9 (.bin .eql (t 8) (Ki 0)),Im 10 9,Jm 11 10 true 1,I2 12 10 (.bin .eql (t 11) (Ks ([117,115,101,32,102,105,114,115,116,32,59,10]))),I1 13 (.pick (t 10) (t 12) KF),Im 0 13])
 .ret)))
theorem fn33 : Fn Tryz.prog 33 14 [.inl 0] c33:=⟨⟨_,_,Tryz.func33,rfl,by kernel_rfl,Tryz.ntmps33,by kernel_rfl,Hq1,by kernel_rfl⟩⟩
def c35 : C :=
 (.seq (.reg [I1 1 (.box (t 0)),I1 2 (.mv KF)])
 (.seq (.reg [If 6 0 1,Il 7 6,Ip 8 76 [(t 7)],Im 5 8,Ie 9 0 5,Ie 10 1 5,Im 3 9,Im 4 10])
 (.seq (.seq (.reg [Im 11 3,I1 12 (.bin .lss (t 11) (Ki 0)),Im 13 12,Jm 14 13 false 4,I3 15 13 (.len (t 14)),Jf 16 13 false 7 1,Jl 17 13 false 16,I3 18 13 (.len (t 17)),I3 19 13 (.bin .neq (t 15) (t 18)),I1 20 (.pick (t 13) KT (t 19)),Im 21 20,I3 22 21 (.load true 8 (t 1)),I3 23 21 (.pcall (Kf 77) [(t 22)]),I3 24 21 (.un .not (t 23)),I1 25 (.pick (t 21) KT (t 24))])
 (.cond (t 25)
 (.seq (.reg [I1 2 (.mv KF)])
 .ret)
 .skip))
 (.seq (.seq (.reg [If 26 0 1,Il 27 26,I1 28 (.bin .eql (t 27) (Ks ([118,97,108,117,101])))])
 (.cond (t 28)
 (.seq (.reg [If 29 1 1,Ia 30 4 29,Ip 31 78 [(t 30)],Im 2 31])
 .ret)
 .skip))
 (.seq (.reg [If 32 1 1,Ia 33 4 32,I1 34 (.build [(.int .i64 0),(.int .i64 0),(.str []),.nils] []),Ip 35 64 [(t 33),(t 34)],I1 36 (.bin .eql (t 35) (Ki 0)),Im 37 36,Jf 38 37 true 7 1,Jl 39 37 true 38,I2 40 37 (.pcall (Kf 79) [(t 39),(Kf 80)]),I2 41 37 (.un .not (t 40)),I1 42 (.pick (t 37) (t 41) KF),Im 2 42])
 .ret)))))
theorem fn35 : Fn Tryz.prog 35 43 [.inl 2] c35:=⟨⟨_,_,Tryz.func35,rfl,by kernel_rfl,Tryz.ntmps35,by kernel_rfl,Hq1,by kernel_rfl⟩⟩
def c47 : C :=
 (.seq (.reg [I1 4 (.mv KF)])
 (.seq (.reg [Im 5 0,Im 6 1,Ip 7 102 [(t 5),(t 6)],I1 8 (.bin .geq (t 7) (Ki 0)),Im 4 8])
 .ret))
theorem fn47 : Fn Tryz.prog 47 9 [.inl 4] c47:=⟨⟨_,_,Tryz.func47,rfl,by kernel_rfl,Tryz.ntmps47,by kernel_rfl,Hq1,by kernel_rfl⟩⟩
def c52 : C :=
 (.seq (.reg [I1 2 (.mv (Ki 0))])
 (.seq (.reg [Ip 5 106 [],Im 3 5])
 (.seq (.seq (.reg [I1 4 (.mv (Ki 0))])
 (.block 0
 (.loop
 (.seq (.seq (.reg [Im 6 4,Im 7 3,Iz 8 7,I1 9 (.bin .lss (t 6) (t 8))])
 (.cond (t 9)
 .skip
 (.exit 0)))
 (.seq (.block 1
 (.seq (.reg [Im 12 3,Im 13 4,I1 14 (.iaddr 1 (t 12) (t 13)),Il 15 14,Im 16 0,Ip 17 62 [(t 15),(t 16)]])
 (.cond (t 17)
 (.seq (.reg [I1 18 (.build [(.int .i64 0),(.int .i64 0),(.int .i64 0),(.int .i64 0),(.int .i64 0)] [(0,1,(Ki 0)),(1,1,(Ki 1)),(2,1,(Ki 3)),(3,1,(Ki 4)),(4,1,(Ki 5))]),Im 19 4,I1 20 (.idxa false 1 5 (t 18) (t 19)),Im 2 20])
 .ret)
 .skip)))
 (.reg [Im 10 4,I1 11 (.bin .add (t 10) (Ki 1)),Im 4 11]))))))
 (.seq (.seq (.reg [Im 21 0,I1 22 (.bin .eql (t 21) (Ks ([110,111,116])))])
 (.cond (t 22)
 (.seq (.reg [I1 2 (.mv (Ki 2))])
 .ret)
 .skip))
 (.seq (.seq (.reg [Im 23 0,I1 24 (.bin .eql (t 23) (Ks ([110,101,103])))])
 (.cond (t 24)
 (.seq (.reg [I1 2 (.mv (Ki 6))])
 .ret)
 .skip))
 (.seq (.seq (.reg [I1 25 (.bsl 1 [(Ks ([118,97,108,117,101])),(Ks ([110,111,119])),(Ks ([97,116,116,114])),(Ks ([104,97,115])),(Ks ([114,111,108,101])),(Ks ([115,105,122,101]))]),Im 26 0,Ip 27 62 [(t 25),(t 26)]])
 (.cond (t 27)
 (.seq (.reg [I1 2 (.mv (Ki 7))])
 .ret)
 .skip))
 (.seq (.reg [I1 2 (.mv (k (.int .i64 (-1))))])
 .ret)))))))
theorem fn52 : Fn Tryz.prog 52 28 [.inl 2] c52:=⟨⟨_,_,Tryz.func52,rfl,by kernel_rfl,Tryz.ntmps52,by kernel_rfl,Hq1,by kernel_rfl⟩⟩
def c53 : C :=
 (.seq (.reg [I1 1 (.box (t 0)),I1 2 (.mv KF)])
 (.seq (.seq (.reg [Ia 4 4 1,Ip 5 107 [(t 4)],I1 6 (.un .not (t 5))])
 (.cond (t 6)
 (.seq (.reg [I1 2 (.mv KF)])
 .ret)
 .skip))
 (.seq (.seq (.reg [If 7 0 1,Il 8 7,I1 9 (.bin .neq (t 8) (Ki 5))])
 (.cond (t 9)
 (.seq (.reg [Ia 10 4 1,Ip 11 108 [(t 10),KF],Im 2 11])
 .ret)
 .skip))
 (.seq (.seq (.reg [I1 3 (.mv (Ki 0))])
 (.block 0
 (.loop
 (.seq (.seq (.reg [Im 12 3,If 13 3 1,Il 14 13,Iz 15 14,I1 16 (.bin .lss (t 12) (t 15))])
 (.cond (t 16)
 .skip
 (.exit 0)))
 (.seq (.block 1
 (.seq (.reg [If 19 3 1,Il 20 19,Im 21 3,I1 22 (.iaddr 4 (t 20) (t 21)),Ia 23 4 22,Ip 24 108 [(t 23),KT],I1 25 (.un .not (t 24))])
 (.cond (t 25)
 (.seq (.reg [I1 2 (.mv KF)])
 .ret)
 .skip)))
 (.reg [Im 17 3,I1 18 (.bin .add (t 17) (Ki 1)),Im 3 18]))))))
 (.seq (.reg [If 26 3 1,Il 27 26,Iz 28 27,I1 29 (.bin .gtr (t 28) (Ki 0)),Im 2 29])
 .ret)))))
theorem fn53 : Fn Tryz.prog 53 30 [.inl 2] c53:=⟨⟨_,_,Tryz.func53,rfl,by kernel_rfl,Tryz.ntmps53,by kernel_rfl,Hq1,by kernel_rfl⟩⟩
def c55 : C :=
 (.seq (.reg [I1 2 (.mv KF)])
 (.seq (.reg [I1 3 (.bsl 1 [(Ks ([115,117,98,106,101,99,116])),(Ks ([114,101,115,111,117,114,99,101])),(Ks ([97,99,116,105,111,110])),(Ks ([101,110,118]))]),Im 4 0,Ip 5 62 [(t 3),(t 4)],Im 2 5])
 .ret))
theorem fn55 : Fn Tryz.prog 55 6 [.inl 2] c55:=⟨⟨_,_,Tryz.func55,rfl,by kernel_rfl,Tryz.ntmps55,by kernel_rfl,Hq1,by kernel_rfl⟩⟩
def c89 : C :=
 (.seq (.reg [I1 2 (.box (t 0)),I1 4 (.mv KF)])
 (.seq (.reg [If 5 0 2,Il 6 5,I1 7 (.bin .eql (t 6) (Ki 5)),Im 8 7,Jf 9 8 true 1 2,Jl 10 8 true 9,Jm 11 8 true 1,I2 12 8 (.bin .eql (t 10) (t 11)),I1 13 (.pick (t 8) (t 12) KF),Im 4 13])
 .ret))
theorem fn89 : Fn Tryz.prog 89 14 [.inl 4] c89:=⟨⟨_,_,Tryz.func89,rfl,by kernel_rfl,Tryz.ntmps89,by kernel_rfl,Hq1,by kernel_rfl⟩⟩
def c107 : C :=
 (.seq (.reg [I1 1 (.box (t 0)),I1 2 (.mv KF)])
 (.seq (.seq (.reg [If 4 0 1,Il 5 4,I1 6 (.bin .neq (t 5) (Ki 5))])
 (.cond (t 6)
 (.seq (.reg [Ia 7 4 1,Ip 8 171 [(t 7)],Im 2 8])
 .ret)
 .skip))
 (.seq (.seq (.reg [If 9 1 1,Il 10 9,I1 11 (.bin .neq (t 10) (Ki 0)),Im 12 11,Jf 13 12 false 2 1,Jl 14 12 false 13,I3 15 12 (.bin .neq (t 14) (Ks ([]))),I1 16 (.pick (t 12) KT (t 15)),Im 17 16,Jf 18 17 false 3 1,Jl 19 17 false 18,I3 20 17 (.len (t 19)),I3 21 17 (.bin .gtr (t 20) (Ki 16)),I1 22 (.pick (t 17) KT (t 21))])
 (.cond (t 22)
 (.seq (.reg [I1 2 (.mv KF)])
 .ret)
 .skip))
 (.seq (.seq (.reg [I1 3 (.mv (Ki 0))])
 (.block 0
 (.loop
 (.seq (.seq (.reg [Im 23 3,If 24 3 1,Il 25 24,Iz 26 25,I1 27 (.bin .lss (t 23) (t 26))])
 (.cond (t 27)
 .skip
 (.exit 0)))
 (.seq (.block 1
 (.seq (.draw 0 [(If 30 3 1,[]),(Il 31 30,[]),(Im 32 3,[]),(I1 33 (.iaddr 4 (t 31) (t 32)),[]),(Ia 34 4 33,[]),(Ip 35 171 [(t 34)],[]),(I1 36 (.un .not (t 35)),[]),(Im 37 36,[]),(Jf 38 37 false 3 1,[]),(Jl 39 37 false 38,[]),(Jm 40 37 false 3,[]),(I3 41 37 (.iaddr 4 (t 39) (t 40)),[]),(Jf 42 37 false 0 41,[]),(Jl 43 37 false 42,[]),(I3 44 37 (.bin .eql (t 43) (Ki 0)),[]),(I1 45 (.pick (t 37) KT (t 44)),[]),(Im 46 45,[]),(Jf 47 46 false 3 1,[]),(Jl 48 46 false 47,[]),(Jm 49 46 false 3,[]),(I3 50 46 (.iaddr 4 (t 48) (t 49)),[]),(Jf 51 46 false 0 50,[]),(Jl 52 46 false 51,[]),(Jf 53 46 false 3 1,[]),(Jl 54 46 false 53,[]),(I3 55 46 (.iaddr 4 (t 54) (Ki 0)),[]),(Jf 56 46 false 0 55,[]),(Jl 57 46 false 56,[]),(I3 58 46 (.bin .neq (t 52) (t 57)),[]),(I1 59 (.pick (t 46) KT (t 58)),[]),(Im 60 59,[]),(Jm 61 60 false 3,[]),(I3 62 60 (.bin .gtr (t 61) (Ki 0)),[]),(Jm 63 60 false 62,[]),(Jf 64 63 true 3 1,[]),(Jl 65 63 true 64,[]),(Jm 66 63 true 3,[]),(I2 67 63 (.bin .sub (t 66) (Ki 1)),[]),(I2 68 63 (.iaddr 4 (t 65) (t 67)),[]),(I2 69 63 (.load true 4 (t 68)),[]),(Jf 70 63 true 3 1,[]),(Jl 71 63 true 70,[]),(Jm 72 63 true 3,[]),(I2 73 63 (.iaddr 4 (t 71) (t 72)),[]),(I2 74 63 (.load true 4 (t 73)),[]),(I2 75 63 (.pcall (Kf 172) [(t 69),(t 74)]),[]),(I2 76 63 (.bin .geq (t 75) (Ki 0)),[]),(I3 77 60 (.pick (t 63) (t 76) KF),[]),(I1 78 (.pick (t 60) KT (t 77)),[])])
 (.cond (t 78)
 (.seq (.reg [I1 2 (.mv KF)])
 .ret)
 .skip)))
 (.reg [Im 28 3,I1 29 (.bin .add (t 28) (Ki 1)),Im 3 29]))))))
 (.seq (.reg [I1 2 (.mv KT)])
 .ret)))))
theorem fn107 : Fn Tryz.prog 107 79 [.inl 2] c107:=⟨⟨_,_,Tryz.func107,rfl,by kernel_rfl,Tryz.ntmps107,by kernel_rfl,Hq1,by kernel_rfl⟩⟩
def c125 : C :=
 (.seq (.reg [I1 1 (.box (t 0)),I1 2 (.mv KN)])
 (.seq (.seq (.reg [If 3 0 1,Il 4 3])
 (.block 0
 (.seq (.reg [I1 6 (.bin .eql (t 4) (Ks ([118,97,108,117,101]))),Im 5 6])
 (.cond (t 5)
 (.seq (.reg [If 7 1 1,Ia 8 4 7,Ip 9 178 [(t 8)],Im 2 9])
 .ret)
 (.seq (.reg [I1 11 (.bin .eql (t 4) (Ks ([110,111,119]))),Im 10 11])
 (.cond (t 10)
 (.seq (.reg [I1 12 (.bsl 1 [(Ks ([110,111,119]))]),Ip 13 84 [(t 12)],Im 2 13])
 .ret)
 (.seq (.reg [I1 15 (.bin .eql (t 4) (Ks ([114,111,108,101]))),Im 14 15])
 (.cond (t 14)
 (.seq (.draw 0 [(I1 16 (.bslq 1 [(Ks ([114,111,108,101]))]),[]),(Ip 17 84 [(t 16)],[]),(If 18 6 1,[]),(Il 19 18,[]),(I1 20 (.build [(.int .i64 0),(.str []),(.int .i64 0)] [(0,1,(Ki 3)),(1,1,(t 19))]),[]),(I1 21 (.bslq 3 [(t 20)]),[]),(Ip 22 124 [(t 21)],[]),(I1 23 (.bslq 1 [(t 17),(t 22)]),[]),(Ip 24 85 [(t 23)],[]),(Im 2 24,[])])
 .ret)
 (.seq (.reg [I1 26 (.bin .eql (t 4) (Ks ([104,97,115]))),Im 25 26])
 (.cond (t 25)
 (.seq (.draw 0 [(I1 27 (.bslq 1 [(Ks ([104,97,115]))]),[]),(Ip 28 84 [(t 27)],[]),(If 29 5 1,[]),(Il 30 29,[]),(If 31 6 1,[]),(Il 32 31,[]),(I1 33 (.bslq 1 [(t 30),(Ks ([46])),(t 32)]),[]),(Ip 34 84 [(t 33)],[]),(Ip 35 124 [(t 34)],[]),(I1 36 (.bslq 1 [(t 28),(t 35)]),[]),(Ip 37 85 [(t 36)],[]),(Im 2 37,[])])
 .ret)
 .skip))))))))))
 (.seq (.reg [If 38 5 1,Il 39 38,If 40 6 1,Il 41 40,I1 42 (.bsl 1 [(t 39),(Ks ([46])),(t 41)]),Ip 43 84 [(t 42)],Im 2 43])
 .ret)))
theorem fn125 : Fn Tryz.prog 125 44 [.inl 2] c125:=⟨⟨_,_,Tryz.func125,rfl,by kernel_rfl,Tryz.ntmps125,by kernel_rfl,Hq1,by kernel_rfl⟩⟩
def c130 : C :=
 (.seq (.reg [I1 2 (.box (t 0)),I1 4 (.mv KF)])
 (.seq (.seq (.reg [If 5 0 2,Il 6 5])
 (.block 0
 (.seq (.reg [I1 8 (.bin .eql (t 6) (Ki 2)),Im 7 8])
 (.cond (t 7)
 (.seq (.reg [If 9 1 2,Il 10 9,Im 11 1,I1 12 (.bin .geq (t 10) (t 11)),Im 4 12])
 .ret)
 (.seq (.reg [I1 14 (.bin .eql (t 6) (Ki 3)),Im 13 14])
 (.cond (t 13)
 (.seq (.reg [If 15 2 2,Il 16 15,Ip 17 128 [(t 16)],Im 4 17])
 .ret)
 .skip))))))
 (.seq (.reg [If 18 0 2,Il 19 18,I1 20 (.bin .eql (t 19) (Ki 1)),Im 21 20,Jf 22 21 false 0 2,Jl 23 21 false 22,I3 24 21 (.bin .eql (t 23) (Ki 4)),I1 25 (.pick (t 21) KT (t 24)),Im 4 25])
 .ret)))
theorem fn130 : Fn Tryz.prog 130 26 [.inl 4] c130:=⟨⟨_,_,Tryz.func130,rfl,by kernel_rfl,Tryz.ntmps130,by kernel_rfl,Hq1,by kernel_rfl⟩⟩
def c144 : C :=
 (.seq (.reg [I1 6 (.mv (Ki 0))])
 (.seq (.reg [Im 8 1,Im 7 8])
 (.seq (.block 0
 (.loop
 (.seq (.seq (.reg [Im 9 7,Im 10 0,I1 11 (.lens (t 10)),I1 12 (.bin .lss (t 9) (t 11)),Im 13 12,Jm 14 13 true 2,Jm 15 13 true 0,Jm 16 13 true 7,I2 17 13 (.idxs (t 15) (t 16)),I2 18 13 (.pcall (t 14) [(t 17)]),I1 19 (.pick (t 13) (t 18) KF)])
 (.cond (t 19)
 .skip
 (.exit 0)))
 (.block 1
 (.reg [Im 20 7,I1 21 (.bin .add (t 20) (Ki 1)),Im 7 21])))))
 (.seq (.reg [Im 22 7,Im 23 1,I1 24 (.bin .sub (t 22) (t 23)),Im 6 24])
 .ret))))
theorem fn144 : Fn Tryz.prog 144 25 [.inl 6] c144:=⟨⟨_,_,Tryz.func144,rfl,by kernel_rfl,Tryz.ntmps144,by kernel_rfl,Hq1,by kernel_rfl⟩⟩
def c151 : C :=
 (.seq (.reg [I1 0 (.mv KN)])
 (.seq (.reg [I1 1 (.bsl 1 [(Ks ([61,61])),(Ks ([33,61])),(Ks ([60,61])),(Ks ([62,61])),(Ks ([123])),(Ks ([125])),(Ks ([40])),(Ks ([41])),(Ks ([91])),(Ks ([93])),(Ks ([59])),(Ks ([46])),(Ks ([44])),(Ks ([43])),(Ks ([45])),(Ks ([42])),(Ks ([60])),(Ks ([62]))]),Im 0 1])
 .ret))
theorem fn151 : Fn Tryz.prog 151 2 [.inl 0] c151:=⟨⟨_,_,Tryz.func151,rfl,by kernel_rfl,Tryz.ntmps151,by kernel_rfl,Hq1,by kernel_rfl⟩⟩
end GP
