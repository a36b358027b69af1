import Derived.Shelf.SlSortCmp.WholeK
import Derived.Test.YtainhmbnbgonhaaGreatDoorProg
import Derived.Test.YtainhmbnbgonhaaGreatDoorM4
set_option linter.unusedSimpArgs false
set_option linter.unnecessarySimpa false
namespace GP
open Go
open Rd O
set_option maxRecDepth 100000
variable {P : Program} [HasG P]
@[go_sem high] theorem iab_nat (sz : Nat) (b : Bool) (xs : List D) (k : IntKind) (i : Nat) : ia sz (sliceD b xs) (.int k (i : Int)) = iaE sz xs[i]?:=by
 rw [ia_sliceD,if_pos (by omega)];simp
@[go_sem high] theorem iab_nat' (sz : Nat) (t : Option Nat) (xs : List D) (k : IntKind) (i : Nat) : ia sz (.sl t xs) (.int k (i : Int)) = iaE sz xs[i]?:=by
 rw [ia_sl,if_pos (by omega)];simp
def isLs (p : D -> Prop) (d : D) : Prop:=∃ n l,d = sliceD n l /\ l.length <= 2 ^ 47 /\ ∀ x ∈ l,p x
theorem isLs_nils (p : D -> Prop) : isLs p .nils:=⟨true,[],rfl,by simp,by simp⟩
theorem eraseL_id {l : List D} (h : ∀ x ∈ l,x.erase = x) : D.eraseL l = l:=by
 rw [eraseL_map]
 exact (List.map_congr_left h).trans (List.map_id'' (fun _=>rfl) l)
theorem isLs_erase {p : D -> Prop} (hp : ∀ x,p x -> x.erase = x) {d : D} (h : isLs p d) : d.erase = d:=by
 obtain ⟨n,l,rfl,_,hx⟩:=h
 rw [erase_sliceD,eraseL_id fun x hl=>hp x (hx x hl)]
theorem wrapIY (a : Int) : IntKind.i64.wrap a = if a % 2 ^ 64 ≥ 2 ^ 63 then a % 2 ^ 64 - 2 ^ 64 else a % 2 ^ 64:=by simp [IntKind.wrap,IntKind.bits,IntKind.signed]
theorem wrap_inY {a : Int} (h1 : -(2 ^ 63) <= a) (h2 : a < 2 ^ 63) : IntKind.i64.wrap a = a:=by rw [wrapIY];split <;> omega
theorem wrap_natY (n : Nat) (h : n <= 2 ^ 62) : IntKind.i64.wrap ((n : Int) + 1) = ((n + 1 : Nat) : Int):=by
 rw [wrap_inY (by omega) (by omega)];rfl
structure El (ag : Bool) (sz : Nat) (x : D) : Prop where
 erase : x.erase = x
 len : x.cells.length = sz
 ld : ld ag sz (some x.cells) = some x
theorem El.agg {sz : Nat} {x : D} (h1 : x.erase = x) (h2 : x.cells.length = sz) (h3 : D.agg x.cells = x) : El true sz x :=
 ⟨h1,h2,by simp only [GP.ld,if_true];rw [if_pos (by omega),List.take_of_length_le (by omega),h3]⟩
def isT : Option D -> Bool
 | some (.bool b)=>b
 | _=>false
def idxP (p : D -> Bool) (l : List D) : Int:=match l.findIdx? p with
 | some i=>i
 | none=>-1
def idxC (ag : Bool) (sz : Nat) : C :=
 (.seq (.reg [⟨(some 4),none,.mv (k (.int .i64 0))⟩])
 (.seq (.seq (.reg [⟨(some 6),none,.mv (t 0)⟩,⟨(some 7),none,.len (t 6)⟩,⟨(some 8),none,.mv (k (.int .i64 0))⟩])
 (.block 0
 (.loop
 (.seq (.reg [⟨(some 9),none,.bin .lss (t 8) (t 7)⟩])
 (.seq (.cond (t 9)
 .skip
 (.exit 0))
 (.seq (.block 1
 (.seq (.reg [⟨(some 10),none,.mv (t 8)⟩,⟨(some 5),none,.mv (t 10)⟩])
 (.seq (.reg [⟨(some 11),none,.mv (t 1)⟩,⟨(some 12),none,.mv (t 0)⟩,⟨(some 13),none,.mv (t 5)⟩,⟨(some 14),none,.iaddr sz (t 12) (t 13)⟩,⟨(some 15),none,.load ag sz (t 14)⟩,⟨(some 16),none,.pcall (t 11) [(t 15)]⟩])
 (.cond (t 16)
 (.seq (.reg [⟨(some 17),none,.mv (t 5)⟩,⟨(some 4),none,.mv (t 17)⟩])
 .ret)
 .skip))))
 (.reg [⟨(some 18),none,.bin .add (t 8) (k (.int .i64 1))⟩,⟨(some 8),none,.mv (t 18)⟩])))))))
 (.seq (.reg [⟨(some 4),none,.mv (k (.int .i64 (-1)))⟩])
 .ret)))
open Classical in
noncomputable def φidx (f : FuncId) (φf : Hp -> List D -> Option D) (good : D -> Prop) (H : Hp) : List D -> Option D
 | [l,.fn g [] cap]=>if g = f /\ isLs good l /\ D.eraseL cap = cap /\ ∀ x ∈ elems l,∃ b,φf H (x :: cap) = some (.bool b) then some (.int .i64 (idxP (fun x=>isT (φf H (x :: cap))) (elems l))) else none
 | _=>none
def Mo (φf : Hp -> List D -> Option D) : Prop:=∀ H H' a r,Hle H H' -> φf H a = some r -> φf H' a = some r
theorem Mo.const (φ : List D -> Option D) : Mo (fun _=>φ):=fun _ _ _ _ _ h=>h
theorem OkAt.lift {f : FuncId} {φ : List D -> Option D} (h : OkAt P f φ) : OkAtH P f (fun _=>φ):=fun H args r hr args' he T Q hQ=>h args r hr args' he H T Q hQ
theorem idxP_congr {p q : D -> Bool} {l : List D} (h : ∀ x ∈ l,p x = q x) : idxP p l = idxP q l:=by
 unfold idxP
 have : l.findIdx? p = l.findIdx? q:=by
  induction l with
  | nil=>rfl
  | cons a l ih =>
   simp only [List.findIdx?_cons,h a (by simp),ih (fun x hx=>h x (by simp [hx]))]
 rw [this]
theorem φidx_mono {f : FuncId} {φf : Hp -> List D -> Option D} (hm : Mo φf) (good : D -> Prop) : Mo (φidx f φf good):=by
 intro H H' a r hl h
 unfold φidx at h ⊢
 split at h
 ·rename_i l g cap
  split at h
  ·rename_i hc
   obtain ⟨h1,h2,h3,h4⟩:=hc
   have h4' : ∀ x ∈ elems l,∃ b,φf H' (x :: cap) = some (.bool b):=fun x hx=>by
    obtain ⟨b,hb⟩:=h4 x hx
    exact ⟨b,hm _ _ _ _ hl hb⟩
   rw [if_pos ⟨h1,h2,h3,h4'⟩,← h]
   congr 2
   refine idxP_congr fun x hx=>?_
   obtain ⟨b,hb⟩:=h4 x hx
   rw [hb,hm _ _ _ _ hl hb]
  ·cases h
 ·cases h
theorem findIdx_at {p : D -> Bool} : ∀ {l : List D} {i : Nat} {x : D},l[i]? = some x -> p x = true -> (∀ (j : Nat) y,j < i -> l[j]? = some y -> p y = false) -> l.findIdx? p = some i
 | a :: l,0,x,h,hp,_=>by simp at h;subst h;simp [List.findIdx?_cons,hp]
 | a :: l,i + 1,x,h,hp,hn=>by
  have h0:=hn 0 a (by omega) rfl
  have:=findIdx_at (l:=l) (i:=i) (x:=x) (by simpa using h) hp (fun j y hj hy=>hn (j + 1) y (by omega) (by simpa using hy))
  simp [List.findIdx?_cons,h0,this]
theorem findIdx_no {p : D -> Bool} : ∀ {l : List D},(∀ (j : Nat) y,l[j]? = some y -> p y = false) -> l.findIdx? p = none
 | [],_=>rfl
 | a :: l,h=>by
  have h0:=h 0 a rfl
  have:=findIdx_no (l:=l) (fun j y hy=>h (j + 1) y (by simpa using hy))
  simp [List.findIdx?_cons,h0,this]
theorem okIdx {ag : Bool} {sz : Nat} {N : FuncId} (hf : Fn P N 19 [.inl 4] (idxC ag sz)) {f : FuncId} {φf : Hp -> List D -> Option D} (hφ : OkAtH P f φf) (hm : Mo φf) {good : D -> Prop} (hg : ∀ x,good x -> El ag sz x) : OkAtH P N (φidx f φf good):=by
 have M : MonoH [(f,φf)]:=.cons hm .nil
 refine okH_of (l:=[]) (m:=[(f,φf)]) .nil (.cons hφ .nil) hf fun H args r h=>?_
 unfold φidx at h
 split at h
 ·rename_i l g cap
  split at h
  ·rename_i hc
   obtain ⟨rfl,⟨n,xs,rfl,hl,hx⟩,h3,h4⟩:=hc
   rw [elems_sliceD] at h h4
   injection h with h;subst h
   refine ⟨by simp,by simp [D.cl],fun T=>?_⟩
   simp +contextual (maxSteps:=10000000) only [idxC,go_sem]
   refine W_for (fun i s=>s.t 0 = sliceD n xs /\ s.t 1 = .fn g [] cap /\ s.t 6 = sliceD n xs /\ s.t 7 = .int .i64 xs.length /\ s.t 8 = .int .i64 i /\ s.H = H /\ s.T = T /\ i <= xs.length /\ ∀ (j : Nat) x,j < i -> xs[j]? = some x -> isT (φf H (x :: cap)) = false) xs.length ⟨0,by simp [upd,argT]⟩ (fun i s h=>h.2.2.2.2.2.2.2.1) ?_ (XM_mono _ _)
   rintro i ⟨t,H',T'⟩ ⟨h0,h1,h6,h7,h8,rfl,rfl,hi,hc⟩
   simp only at h0 h1 h6 h7 h8
   by_cases ha : i < xs.length
   ·have d1 : decide ((i : Int) < xs.length) = true:=by simpa using ha
    have e : xs[i]? = some xs[i]:=by simp [ha]
    have hxi:=hx _ (List.getElem_mem ha)
    obtain ⟨b,hb⟩:=h4 _ (List.getElem_mem ha)
    have E:=hg _ hxi
    generalize xs[i] = x at *
    have hle:=E.len
    have hld:=E.ld
    have her:=E.erase
    cases b with
    | true =>
     have hI : idxP (fun x=>isT (φf H' (x :: cap))) xs = i:=by
      unfold idxP
      rw [findIdx_at e (by rw [hb];rfl) hc]
     simp +contextual (maxSteps:=10000000) only [h0,h1,h6,h7,h8,d1,e,hle,hld,her,h3,hb,hI,wrap_natY i (by omega),pcallH M,lookH_cons,lookH_nil,orK_n,go_sem]
    | false =>
     have nx : ∀ (j : Nat) x,j < i + 1 -> xs[j]? = some x -> isT (φf H' (x :: cap)) = false:=fun j y hj hy=>by
      by_cases hji : j = i
      ·subst hji;rw [e] at hy;injection hy with hy;subst hy;rw [hb];rfl
      ·exact hc j y (by omega) hy
     simp +contextual (maxSteps:=10000000) only [h0,h1,h6,h7,h8,d1,e,hle,hld,her,h3,hb,wrap_natY i (by omega),pcallH M,lookH_cons,lookH_nil,orK_n,go_sem]
     exact ⟨by omega,nx⟩
   ·have d1 : decide ((i : Int) < xs.length) = false:=by simpa using ha
    have hI : idxP (fun x=>isT (φf H' (x :: cap))) xs = -1:=by
     unfold idxP
     rw [findIdx_no (fun j y hy=>hc j y (by
      rcases Nat.lt_or_ge j i with h' | h'
      ·exact h'
      ·rw [List.getElem?_eq_none (by omega)] at hy;cases hy) hy)]
    simp +contextual (maxSteps:=10000000) only [h0,h1,h6,h7,h8,d1,hI,go_sem]
  ·cases h
 ·cases h
def cfC (g : FuncId) : C :=
 (.seq (.reg [⟨(some 4),none,.mv (k (.bool false))⟩])
 (.seq (.reg [⟨(some 5),none,.mv (t 0)⟩,⟨(some 6),none,.mv (t 1)⟩,⟨(some 7),none,.pcall (k (.fn g [] [])) [(t 5),(t 6)]⟩,⟨(some 8),none,.bin .geq (t 7) (k (.int .i64 0))⟩,⟨(some 4),none,.mv (t 8)⟩])
 .ret))
open Classical in
noncomputable def φcf (f : FuncId) (φf : Hp -> List D -> Option D) (good : D -> Prop) (H : Hp) : List D -> Option D
 | [l,.fn g [] cap]=>if g = f /\ isLs good l /\ D.eraseL cap = cap /\ ∀ x ∈ elems l,∃ b,φf H (x :: cap) = some (.bool b) then some (.bool ((elems l).any (fun x=>isT (φf H (x :: cap))))) else none
 | _=>none
theorem idxP_any (p : D -> Bool) (l : List D) : decide ((0 : Int) <= idxP p l) = l.any p:=by
 unfold idxP
 cases h : l.findIdx? p with
 | some i =>
  have : l.any p = true:=by
   rw [List.findIdx?_eq_some_iff_getElem] at h
   obtain ⟨h1,h2,_⟩:=h
   exact List.any_eq_true.2 ⟨_,List.getElem_mem h1,h2⟩
  rw [this];simp
 | none =>
  have : l.any p = false:=by
   rw [List.findIdx?_eq_none_iff] at h
   exact List.any_eq_false.2 fun x hx=>by simp [h x hx]
  rw [this];rfl
theorem any_congr' {p q : D -> Bool} {l : List D} (h : ∀ x ∈ l,p x = q x) : l.any p = l.any q:=by
 induction l with
 | nil=>rfl
 | cons a l ih=>simp only [List.any_cons,h a (by simp),ih (fun x hx=>h x (by simp [hx]))]
theorem okCf {N M : FuncId} (hf : Fn P N 9 [.inl 4] (cfC M)) {f : FuncId} {φf : Hp -> List D -> Option D} {good : D -> Prop} (hge : ∀ x,good x -> x.erase = x) (hi : OkAtH P M (φidx f φf good)) (hm : Mo φf) : OkAtH P N (φcf f φf good):=by
 have MM : MonoH [(M,φidx f φf good)]:=.cons (φidx_mono hm good) .nil
 refine okH_of (l:=[]) (m:=[(M,φidx f φf good)]) .nil (.cons hi .nil) hf fun H args r h=>?_
 unfold φcf at h
 split at h
 ·rename_i l g cap
  split at h
  ·rename_i hc
   have p : φidx f φf good H [l,.fn g [] cap] = some (.int .i64 (idxP (fun x=>isT (φf H (x :: cap))) (elems l))):=by
    simp only [φidx];rw [if_pos hc]
   have a:=idxP_any (fun x=>isT (φf H (x :: cap))) (elems l)
   obtain ⟨rfl,h2,h3,h4⟩:=hc
   have el:=isLs_erase hge h2
   injection h with h;subst h
   refine ⟨by simp,by simp [D.cl],fun T=>?_⟩
   simp +contextual (maxSteps:=10000000) only [cfC,el,h3,p,pcallH MM,lookH_cons,lookH_nil,orK_n,a,go_sem]
  ·cases h
 ·cases h
end GP
namespace GP
open Go
open Rd O
set_option maxRecDepth 100000
variable {P : Program} [HasG P]
def isTx (x : D) : Prop:=∃ w,x = .str w /\ w.length <= 2 ^ 47
def strOf : D -> List UInt8
 | .str w=>w
 | _=>[]
theorem isTx_erase {x : D} (h : isTx x) : x.erase = x:=by obtain ⟨w,rfl,_⟩:=h;rfl
def idxSC : C :=
 (.seq (.reg [⟨(some 4),none,.mv (k (.int .i64 0))⟩])
 (.seq (.seq (.reg [⟨(some 6),none,.mv (t 0)⟩,⟨(some 7),none,.len (t 6)⟩,⟨(some 8),none,.mv (k (.int .i64 0))⟩])
 (.block 0
 (.loop
 (.seq (.reg [⟨(some 9),none,.bin .lss (t 8) (t 7)⟩])
 (.seq (.cond (t 9)
 .skip
 (.exit 0))
 (.seq (.block 1
 (.seq (.reg [⟨(some 10),none,.mv (t 8)⟩,⟨(some 5),none,.mv (t 10)⟩])
 (.seq (.reg [⟨(some 11),none,.mv (t 1)⟩,⟨(some 12),none,.mv (t 0)⟩,⟨(some 13),none,.mv (t 5)⟩,⟨(some 14),none,.iaddr 1 (t 12) (t 13)⟩,⟨(some 15),none,.load false 1 (t 14)⟩,⟨(some 16),none,.bin .eql (t 11) (t 15)⟩])
 (.cond (t 16)
 (.seq (.reg [⟨(some 17),none,.mv (t 5)⟩,⟨(some 4),none,.mv (t 17)⟩])
 .ret)
 .skip))))
 (.reg [⟨(some 18),none,.bin .add (t 8) (k (.int .i64 1))⟩,⟨(some 8),none,.mv (t 18)⟩])))))))
 (.seq (.reg [⟨(some 4),none,.mv (k (.int .i64 (-1)))⟩])
 .ret)))
open Classical in
noncomputable def φidxS : List D -> Option D
 | [l,.str w]=>if isLs isTx l then some (.int .i64 (idxP (fun x=>w == strOf x) (elems l))) else none
 | _=>none
theorem okIdxS {N : FuncId} (hf : Fn P N 19 [.inl 4] idxSC) : OkAt P N φidxS:=by
 refine ok_of (l:=[]) .nil hf fun args r h=>?_
 unfold φidxS at h
 split at h
 ·rename_i l w
  split at h
  ·rename_i hc
   obtain ⟨n,xs,rfl,hl,hx⟩:=hc
   rw [elems_sliceD] at h
   injection h with h;subst h
   refine ⟨by simp,by simp [D.cl],fun H T=>?_⟩
   simp +contextual (maxSteps:=10000000) only [idxSC,go_sem]
   refine W_for (fun i s=>s.t 0 = sliceD n xs /\ s.t 1 = .str w /\ s.t 6 = sliceD n xs /\ s.t 7 = .int .i64 xs.length /\ s.t 8 = .int .i64 i /\ s.H = H /\ s.T = T /\ i <= xs.length /\ ∀ (j : Nat) x,j < i -> xs[j]? = some x -> (w == strOf x) = false) xs.length ⟨0,by simp [upd,argT]⟩ (fun i s h=>h.2.2.2.2.2.2.2.1) ?_ (XL_mono _)
   rintro i ⟨t,H',T'⟩ ⟨h0,h1,h6,h7,h8,rfl,rfl,hi,hc⟩
   simp only at h0 h1 h6 h7 h8
   by_cases ha : i < xs.length
   ·have d1 : decide ((i : Int) < xs.length) = true:=by simpa using ha
    have e : xs[i]? = some xs[i]:=by simp [ha]
    obtain ⟨v,hv,_⟩:=hx _ (List.getElem_mem ha)
    generalize xs[i] = x at *
    subst hv
    have nx : (w == v) = false -> ∀ (j : Nat) x,j < i + 1 -> xs[j]? = some x -> (w == strOf x) = false:=fun hb j y hj hy=>by
     by_cases hji : j = i
     ·subst hji;rw [e] at hy;injection hy with hy;subst hy;exact hb
     ·exact hc j y (by omega) hy
    have hI : (w == v) = true -> idxP (fun x=>w == strOf x) xs = i:=fun hb=>by
     unfold idxP
     rw [findIdx_at e hb hc]
    cases hb : (w == v) with
    | true =>
     have hI:=hI hb
     simp +contextual (maxSteps:=10000000) only [h0,h1,h6,h7,h8,d1,e,hb,hI,wrap_natY i (by omega),go_sem]
    | false =>
     have nx:=nx hb
     simp +contextual (maxSteps:=10000000) only [h0,h1,h6,h7,h8,d1,e,hb,wrap_natY i (by omega),go_sem]
     exact ⟨by omega,nx⟩
   ·have d1 : decide ((i : Int) < xs.length) = false:=by simpa using ha
    have hI : idxP (fun x=>w == strOf x) xs = -1:=by
     unfold idxP
     rw [findIdx_no (fun j y hy=>hc j y (by
      rcases Nat.lt_or_ge j i with h' | h'
      ·exact h'
      ·rw [List.getElem?_eq_none (by omega)] at hy;cases hy) hy)]
    simp +contextual (maxSteps:=10000000) only [h0,h1,h6,h7,h8,d1,hI,go_sem]
  ·cases h
 ·cases h
open Classical in
noncomputable def φcontS : List D -> Option D
 | [l,.str w]=>if isLs isTx l then some (.bool ((elems l).any (fun x=>w == strOf x))) else none
 | _=>none
theorem okContS {N M : FuncId} (hf : Fn P N 9 [.inl 4] (cfC M)) (hi : OkAt P M φidxS) : OkAt P N φcontS:=by
 refine ok_of (l:=[(M,φidxS)]) (.cons hi .nil) hf fun args r h=>?_
 unfold φcontS at h
 split at h
 ·rename_i l w
  split at h
  ·rename_i hc
   have p : φidxS [l,.str w] = some (.int .i64 (idxP (fun x=>w == strOf x) (elems l))):=by
    simp only [φidxS];rw [if_pos hc]
   have a:=idxP_any (fun x=>w == strOf x) (elems l)
   have el:=isLs_erase (fun _=>isTx_erase) hc
   injection h with h;subst h
   refine ⟨by simp,by simp [D.cl],fun H T=>?_⟩
   simp +contextual (maxSteps:=10000000) only [cfC,el,p,a,go_sem]
  ·cases h
 ·cases h
theorem OkAtH.low {f : FuncId} {φ : List D -> Option D} (h : OkAtH P f (fun _=>φ)) : OkAt P f φ:=fun args r hr args' he H T Q hQ=>h H args r hr args' he T Q hQ
end GP
namespace GP
def imp : List Nat:=[49,50,69,70,71,72,73,82,103,104,105,118,119,120,121,122,123,170,202,217,228,236,238,239,240,241,245,247,248,249,1000000]
end GP
namespace GP
@[reducible] def Hq0 : Hn:=⟨fun f=>imp.contains f,false,fun _=>false,false⟩
@[reducible] def Hq1 : Hn:=⟨fun f=>imp.contains f,true,fun _=>false,false⟩
@[reducible] def Hq2 : Hn:=⟨fun f=>imp.contains f,true,fun f=>([138] : List Nat).contains f,false⟩
@[reducible] def Hq3 : Hn:=⟨fun f=>imp.contains f,false,fun f=>([84] : List Nat).contains f,false⟩
end GP
namespace GP
open Go Go.Proofs
open Rd O
set_option maxRecDepth 100000
def c39 : C :=
 (.seq (.reg [I1 2 (.box (t 0)),I1 4 (.mv (Ki 0))])
 (.seq (.reg [I1 5 (.mv (Ki 1))])
 (.seq (.seq (.reg [I1 6 (.mv (Ki 0))])
 (.block 0
 (.loop
 (.seq (.seq (.reg [Im 7 6,If 8 7 2,Il 9 8,Iz 10 9,I1 11 (.bin .lss (t 7) (t 10)),Im 12 11,Jm 13 12 true 5,Jm 14 12 true 1,I2 15 12 (.bin .leq (t 13) (t 14)),I1 16 (.pick (t 12) (t 15) KF)])
 (.cond (t 16)
 .skip
 (.exit 0)))
 (.seq (.block 1
 (.reg [Im 19 5,If 20 7 2,Il 21 20,Im 22 6,I1 23 (.iaddr 8 (t 21) (t 22)),Ia 24 8 23,Im 25 1,Im 26 5,I1 27 (.bin .sub (t 25) (t 26)),Ip 28 39 [(t 24),(t 27)],I1 29 (.bin .add (t 19) (t 28)),Im 5 29]))
 (.reg [Im 17 6,I1 18 (.bin .add (t 17) (Ki 1)),Im 6 18]))))))
 (.seq (.reg [Im 30 5,Im 4 30])
 .ret))))
theorem fn39 : Fn Tryz.prog 39 31 [.inl 4] c39:=⟨⟨_,_,Tryz.func39,rfl,by kernel_rfl,Tryz.ntmps39,by kernel_rfl,Hq0,by kernel_rfl⟩⟩
def c75 : C :=
 (.seq (.reg [I1 1 (.box (t 0)),I1 2 (.mv KN)])
 (.seq (.reg [If 12 0 1,Il 13 12,Ip 14 76 [(t 13)],Im 11 14,Ie 15 0 11,Ie 16 1 11,Im 3 15,Im 4 16])
 (.seq (.reg [I1 5 (.mv KN)])
 (.seq (.seq (.reg [If 17 7 1,Il 18 17,Iz 19 18,I1 20 (.mv (Ki 0))])
 (.block 0
 (.loop
 (.seq (.reg [I1 21 (.bin .lss (t 20) (t 19))])
 (.seq (.cond (t 21)
 .skip
 (.exit 0))
 (.seq (.block 1
 (.seq (.reg [Im 22 20,I1 23 (.iaddr 8 (t 18) (t 20)),Ia 24 8 23,I1 7 (.alloc [(.str []),(.int .i64 0),(.int .i64 0),(.str []),.nils,(.str []),(.str []),.nils]),Im 6 22,Is 8 7 24])
 (.seq (.reg [Ia 25 8 7,Ip 26 75 [(t 25)],Im 8 26])
 (.seq (.seq (.reg [If 28 0 7,Il 29 28,Ip 30 76 [(t 29)],Im 27 30,Ie 31 0 27,Ie 32 1 27,Im 9 31,Im 10 32])
 (.seq (.reg [Im 33 9,Im 34 4,Im 35 6,I1 36 (.iaddr 1 (t 34) (t 35)),Il 37 36,I1 38 (.bin .lss (t 33) (t 37))])
 (.cond (t 38)
 (.reg [Im 39 8,Ip 40 124 [(t 39)],Im 8 40])
 .skip)))
 (.reg [Im 41 5,Im 42 8,I1 43 (.bsl 1 [(t 42)]),I1 44 (.app false 1 24 (t 41) (t 43)),Im 5 44])))))
 (.reg [I1 45 (.bin .add (t 20) (Ki 1)),Im 20 45])))))))
 (.seq (.block 2
 (.seq (.reg [Im 47 5,Iz 48 47,I1 49 (.bin .eql (t 48) (Ki 0)),Im 46 49])
 (.cond (t 46)
 (.seq (.reg [Ia 50 8 1,Ip 51 125 [(t 50)],Im 2 51])
 .ret)
 (.seq (.reg [If 53 0 1,Il 54 53,I1 55 (.bin .eql (t 54) (Ks ([115,105,122,101]))),Im 52 55])
 (.cond (t 52)
 (.seq (.draw 0 [(I1 56 (.bslq 1 [(Ks ([115,105,122,101]))]),[]),(Ip 57 84 [(t 56)],[]),(Im 58 5,[]),(I1 59 (.iaddr 1 (t 58) (Ki 0)),[]),(Il 60 59,[]),(Ip 61 124 [(t 60)],[]),(I1 62 (.bslq 1 [(t 57),(t 61)]),[]),(Ip 63 85 [(t 62)],[]),(Im 2 63,[])])
 .ret)
 (.seq (.reg [If 65 0 1,Il 66 65,I1 67 (.bin .eql (t 66) (Ks ([110,101,103]))),Im 64 67])
 (.cond (t 64)
 (.seq (.draw 0 [(I1 68 (.bslq 1 [(Ks ([45]))]),[]),(Ip 69 84 [(t 68)],[]),(Im 70 5,[]),(I1 71 (.iaddr 1 (t 70) (Ki 0)),[]),(Il 72 71,[]),(I1 73 (.bslq 1 [(t 69),(t 72)]),[]),(Ip 74 85 [(t 73)],[]),(Im 2 74,[])])
 .ret)
 (.seq (.reg [If 76 0 1,Il 77 76,I1 78 (.bin .eql (t 77) (Ks ([110,111,116]))),Im 75 78])
 (.cond (t 75)
 (.seq (.draw 0 [(I1 79 (.bslq 1 [(Ks ([110,111,116]))]),[]),(Ip 80 84 [(t 79)],[]),(Im 81 5,[]),(I1 82 (.iaddr 1 (t 81) (Ki 0)),[]),(Il 83 82,[]),(I1 84 (.bslq 1 [(t 80),(t 83)]),[]),(Ip 85 85 [(t 84)],[]),(Im 2 85,[])])
 .ret)
 .skip)))))))))
 (.seq (.draw 0 [(Im 86 5,[]),(I1 87 (.iaddr 1 (t 86) (Ki 0)),[]),(Il 88 87,[]),(If 89 0 1,[]),(Il 90 89,[]),(I1 91 (.bslq 1 [(t 90)]),[]),(Ip 92 84 [(t 91)],[]),(Im 93 5,[]),(I1 94 (.iaddr 1 (t 93) (Ki 1)),[]),(Il 95 94,[]),(I1 96 (.bslq 1 [(t 88),(t 92),(t 95)]),[]),(Ip 97 85 [(t 96)],[]),(Im 2 97,[])])
 .ret))))))
theorem fn75 : Fn Tryz.prog 75 98 [.inl 2] c75:=⟨⟨_,_,Tryz.func75,rfl,by kernel_rfl,Tryz.ntmps75,by kernel_rfl,Hq0,by kernel_rfl⟩⟩
def c84 : C :=
 (.seq (.reg [I1 2 (.mv KN)])
 (.seq (.reg [I1 3 (.mv KN)])
 (.seq (.seq (.reg [Im 6 0,Iz 7 6,I1 8 (.mv (Ki 0))])
 (.block 0
 (.loop
 (.seq (.reg [I1 9 (.bin .lss (t 8) (t 7))])
 (.seq (.cond (t 9)
 .skip
 (.exit 0))
 (.seq (.block 1
 (.seq (.reg [I1 10 (.iaddr 1 (t 6) (t 8)),Il 11 10,Im 5 11])
 (.reg [Im 12 3,Im 13 5,Ip 14 87 [(t 13)],I1 15 (.bsl 3 [(t 14)]),I1 16 (.app false 3 32 (t 12) (t 15)),Im 3 16])))
 (.reg [I1 17 (.bin .add (t 8) (Ki 1)),Im 8 17])))))))
 (.seq (.reg [Im 18 3,Im 2 18])
 .ret))))
theorem fn84 : Fn Tryz.prog 84 19 [.inl 2] c84:=⟨⟨_,_,Tryz.func84,rfl,by kernel_rfl,Tryz.ntmps84,by kernel_rfl,Hq0,by kernel_rfl⟩⟩
def c108 : C :=
 (.seq (.reg [I1 2 (.box (t 0)),I1 4 (.mv KF)])
 (.seq (.seq (.reg [If 5 0 2,Il 6 5,I1 7 (.bin .eql (t 6) (Ki 2))])
 (.cond (t 7)
 (.seq (.reg [If 8 1 2,Il 9 8,I1 10 (.bin .geq (t 9) (Ki 0)),Im 11 10,Jm 12 11 false 1,Jm 13 11 false 12,Jf 14 13 true 1 2,Jl 15 13 true 14,I2 16 13 (.bin .gtr (t 15) (k (.int .i64 (-9223372036854775808)))),I3 17 11 (.pick (t 13) (t 16) KF),I1 18 (.pick (t 11) KT (t 17)),Im 4 18])
 .ret)
 .skip))
 (.seq (.reg [If 19 0 2,Il 20 19,I1 21 (.bin .eql (t 20) (Ki 1)),Im 22 21,Jf 23 22 false 0 2,Jl 24 22 false 23,I3 25 22 (.bin .eql (t 24) (Ki 4)),I1 26 (.pick (t 22) KT (t 25)),Im 27 26,Jf 28 27 false 0 2,Jl 29 27 false 28,I3 30 27 (.bin .eql (t 29) (Ki 3)),Jm 31 27 false 30,Jf 32 31 true 2 2,Jl 33 31 true 32,I2 34 31 (.build [(.int .i64 0),(.str []),(.int .i64 0)] [(0,1,(Ki 3)),(1,1,(t 33))]),I2 35 31 (.pcall (Kf 57) [(t 34)]),I3 36 27 (.pick (t 31) (t 35) KF),I1 37 (.pick (t 27) KT (t 36)),Im 4 37])
 .ret)))
theorem fn108 : Fn Tryz.prog 108 38 [.inl 4] c108:=⟨⟨_,_,Tryz.func108,rfl,by kernel_rfl,Tryz.ntmps108,by kernel_rfl,Hq0,by kernel_rfl⟩⟩
def c115 : C :=
 (.seq (.reg [I1 4 (.mv (Ki 0))])
 (.seq (.reg [Im 5 0,Im 6 1,Ip 7 176 [(t 5),(t 6)],Im 4 7])
 .ret))
theorem fn115 : Fn Tryz.prog 115 8 [.inl 4] c115:=⟨⟨_,_,Tryz.func115,rfl,by kernel_rfl,Tryz.ntmps115,by kernel_rfl,Hq0,by kernel_rfl⟩⟩
def c119 : C :=
 (.seq (.reg [I1 4 (.mv (Ks ([])))])
 (.seq (.seq (.reg [Im 7 1,Iz 8 7,I1 9 (.mv (Ki 0))])
 (.block 0
 (.loop
 (.seq (.reg [I1 10 (.bin .lss (t 9) (t 8))])
 (.seq (.cond (t 10)
 .skip
 (.exit 0))
 (.seq (.block 1
 (.seq (.reg [I1 11 (.iaddr 1 (t 7) (t 9)),Il 12 11,Im 6 12])
 (.seq (.reg [Im 13 0,Im 14 6,Ic 15 69 [(t 13),(t 14)]])
 (.cond (t 15)
 (.seq (.reg [Im 16 6,Im 4 16])
 .ret)
 .skip))))
 (.reg [I1 17 (.bin .add (t 9) (Ki 1)),Im 9 17])))))))
 (.seq (.reg [Im 18 0,Im 19 0,In 20 19,If 21 1 20,Il 22 21,Ic 23 105 [(t 18),(t 22),(Ki 2)]])
 (.seq (.reg [I1 4 (.mv (Ks ([])))])
 .ret))))
theorem fn119 : Fn Tryz.prog 119 24 [.inl 4] c119:=⟨⟨_,_,Tryz.func119,rfl,by kernel_rfl,Tryz.ntmps119,by kernel_rfl,Hq0,by kernel_rfl⟩⟩
def c132 : C :=
 (.seq (.reg [I1 1 (.box (t 0)),I1 2 (.mv KF)])
 (.seq (.reg [Ia 3 4 1,Ip 4 130 [(t 3),(k (.int .i64 (-9223372036854775807)))],I1 5 (.un .not (t 4)),Im 2 5])
 .ret))
theorem fn132 : Fn Tryz.prog 132 6 [.inl 2] c132:=⟨⟨_,_,Tryz.func132,rfl,by kernel_rfl,Tryz.ntmps132,by kernel_rfl,Hq0,by kernel_rfl⟩⟩
def c169 : C :=
 (.seq (.reg [I1 4 (.box (t 1)),I1 5 (.box (t 2)),I1 6 (.alloc [(.str []),(.int .i64 0),(.int .i64 0),(.str []),.nils,(.str []),(.str []),.nils])])
 (.seq (.reg [Im 7 0,Ia 8 8 4,Ia 9 8 5,I1 10 (.bsl 8 [(t 8),(t 9)]),I1 11 (.build [(.str []),(.int .i64 0),(.int .i64 0),(.str []),.nils,(.str []),(.str []),.nils] [(0,1,(t 7)),(7,1,(t 10))]),Is 8 6 11])
 .ret))
theorem fn169 : Fn Tryz.prog 169 12 [.inr (6,true,8)] c169:=⟨⟨_,_,Tryz.func169,rfl,by kernel_rfl,Tryz.ntmps169,by kernel_rfl,Hq0,by kernel_rfl⟩⟩
def c177 : C :=
 (.seq (.reg [I1 2 (.alloc [(.int .i64 0),(.str []),(.int .i64 0)])])
 (.seq (.seq (.draw 0 [(Im 3 0,[]),(In 4 3,[]),(If 5 2 4,[]),(Il 6 5,[]),(I1 7 (.bin .neq (t 6) (Ki 0)),[]),(Im 8 7,[]),(Jm 9 8 false 0,[]),(I3 10 8 (.nilc (t 9)),[]),(Jf 11 8 false 1 10,[]),(Jl 12 8 false 11,[]),(Jm 13 8 false 0,[]),(I3 14 8 (.nilc (t 13)),[]),(Jf 15 8 false 0 14,[]),(Jl 16 8 false 15,[]),(I3 17 8 (.len (t 16)),[]),(I3 18 8 (.bin .geq (t 12) (t 17)),[]),(I1 19 (.pick (t 8) KT (t 18)),[]),(Im 20 19,[]),(Jm 21 20 false 0,[]),(I3 22 20 (.nilc (t 21)),[]),(Jf 23 20 false 0 22,[]),(Jl 24 20 false 23,[]),(Jm 25 20 false 0,[]),(I3 26 20 (.nilc (t 25)),[]),(Jf 27 20 false 1 26,[]),(Jl 28 20 false 27,[]),(I3 29 20 (.iaddr 3 (t 24) (t 28)),[]),(I3 30 20 (.load true 3 (t 29)),[]),(I3 31 20 (.pcall (Kf 166) [(t 30)]),[]),(I3 32 20 (.un .not (t 31)),[]),(I1 33 (.pick (t 20) KT (t 32)),[])])
 (.cond (t 33)
 (.seq (.reg [I1 34 (.build [(.int .i64 0),(.str []),(.int .i64 0)] []),Is 3 2 34])
 .ret)
 .skip))
 (.seq (.draw 0 [(Im 35 0,[]),(In 36 35,[]),(If 37 0 36,[]),(Il 38 37,[]),(Im 39 0,[]),(In 40 39,[]),(If 41 1 40,[]),(Il 42 41,[]),(I1 43 (.iaddr 3 (t 38) (t 42)),[]),(Ia 44 3 43,[]),(Is 3 2 44,[])])
 .ret)))
theorem fn177 : Fn Tryz.prog 177 45 [.inr (2,true,3)] c177:=⟨⟨_,_,Tryz.func177,rfl,by kernel_rfl,Tryz.ntmps177,by kernel_rfl,Hq0,by kernel_rfl⟩⟩
def c200 : C :=
 (.seq (.reg [I1 2 (.mv KF)])
 (.seq (.reg [Im 3 0,I1 4 (.bin .geq (t 3) (k (.int .u8 32))),Im 5 4,Jm 6 5 true 0,I2 7 5 (.bin .leq (t 6) (k (.int .u8 126))),I1 8 (.pick (t 5) (t 7) KF),Im 2 8])
 .ret))
theorem fn200 : Fn Tryz.prog 200 9 [.inl 2] c200:=⟨⟨_,_,Tryz.func200,rfl,by kernel_rfl,Tryz.ntmps200,by kernel_rfl,Hq0,by kernel_rfl⟩⟩
def c228 : C :=
 (.seq (.reg [I1 2 (.alloc [(.str []),(.int .i64 0),(.int .i64 0),(.str []),.nils,(.str []),(.str []),.nils])])
 (.seq (.reg [Im 3 0,Im 4 0,I1 5 (.mkfn 236 [(t 4)] []),I1 6 (.bsl 1 [(Ks ([42]))]),Ic 7 103 [(t 3),(t 5),(t 6)],Is 8 2 7])
 .ret))
theorem fn228 : Fn Tryz.prog 228 8 [.inr (2,true,8)] c228:=⟨⟨_,_,Tryz.func228,rfl,by kernel_rfl,Tryz.ntmps228,by kernel_rfl,Hq0,by kernel_rfl⟩⟩
def c240 : C :=
 (.seq (.reg [I1 2 (.alloc [(.str []),(.int .i64 0),(.int .i64 0),(.str []),.nils,(.str []),(.str []),.nils])])
 (.seq (.reg [Im 4 0,Ic 5 71 [(t 4),(Ks ([40]))]])
 (.seq (.reg [Im 6 0,Ic 7 49 [(t 6)],I1 3 (.alloc [(.str []),(.int .i64 0),(.int .i64 0),(.str []),.nils,(.str []),(.str []),.nils]),Is 8 3 7])
 (.seq (.reg [Im 8 0,Ic 9 71 [(t 8),(Ks ([41]))]])
 (.seq (.reg [Ia 10 8 3,Is 8 2 10])
 .ret)))))
theorem fn240 : Fn Tryz.prog 240 11 [.inr (2,true,8)] c240:=⟨⟨_,_,Tryz.func240,rfl,by kernel_rfl,Tryz.ntmps240,by kernel_rfl,Hq0,by kernel_rfl⟩⟩
def c241 : C :=
 (.seq (.reg [I1 4 (.alloc [(.str []),(.int .i64 0),(.int .i64 0),(.str []),.nils,(.str []),(.str []),.nils])])
 (.seq (.reg [Im 8 0,Ic 9 245 [(t 8)],I1 10 (.bsl 4 [(t 9)]),Im 5 10])
 (.seq (.block 0
 (.loop
 (.seq (.seq (.reg [Im 11 0,Ic 12 69 [(t 11),(Ks ([44]))]])
 (.cond (t 12)
 .skip
 (.exit 0)))
 (.block 1
 (.reg [Im 13 5,Im 14 0,Ic 15 245 [(t 14)],I1 16 (.bsl 4 [(t 15)]),I1 17 (.app false 4 56 (t 13) (t 16)),Im 5 17])))))
 (.seq (.reg [Im 18 0,Ic 19 71 [(t 18),(Ks ([93]))]])
 (.seq (.seq (.reg [Im 20 0,In 21 20,If 22 2 21,Il 23 22,I1 24 (.bin .neq (t 23) (Ki 0))])
 (.cond (t 24)
 (.seq (.reg [I1 25 (.build [(.str []),(.int .i64 0),(.int .i64 0),(.str []),.nils,(.str []),(.str []),.nils] []),Is 8 4 25])
 .ret)
 .skip))
 (.seq (.reg [Im 27 5,Ip 28 246 [(t 27)],Im 26 28,Ie 29 0 26,Ie 30 1 26,I1 6 (.alloc [(.int .i64 0),(.int .i64 0),(.str []),.nils]),Is 4 6 29,Im 7 30])
 (.seq (.seq (.reg [Im 31 7,I1 32 (.bin .neq (t 31) (Ki 0))])
 (.cond (t 32)
 (.reg [Im 33 0,Im 34 1,Ic 35 105 [(t 33),(t 34),(Ki 2)]])
 .skip))
 (.seq (.reg [Ia 36 4 6,I1 37 (.build [(.str []),(.int .i64 0),(.int .i64 0),(.str []),.nils,(.str []),(.str []),.nils] [(0,1,(Ks ([118,97,108,117,101]))),(1,4,(t 36))]),Is 8 4 37])
 .ret))))))))
theorem fn241 : Fn Tryz.prog 241 38 [.inr (4,true,8)] c241:=⟨⟨_,_,Tryz.func241,rfl,by kernel_rfl,Tryz.ntmps241,by kernel_rfl,Hq0,by kernel_rfl⟩⟩
def c243 : C :=
 (.seq (.reg [I1 2 (.alloc [(.int .i64 0),(.int .i64 0),(.str []),.nils])])
 (.seq (.reg [Im 3 0,Im 4 0,I1 5 (.lens (t 4)),I1 6 (.mn (t 5) (Ki 64)),I1 7 (.subs (t 3) none (some (t 6))),I1 8 (.build [(.int .i64 0),(.int .i64 0),(.str []),.nils] [(0,1,(Ki 3)),(2,1,(t 7))]),Is 4 2 8])
 .ret))
theorem fn243 : Fn Tryz.prog 243 9 [.inr (2,true,4)] c243:=⟨⟨_,_,Tryz.func243,rfl,by kernel_rfl,Tryz.ntmps243,by kernel_rfl,Hq0,by kernel_rfl⟩⟩
def c249 : C :=
 (.seq (.reg [I1 4 (.mv KN)])
 (.seq (.seq (.reg [Im 8 0,Iz 9 8,I1 10 (.bin .lss (t 9) (Ki 2))])
 (.cond (t 10)
 (.seq (.reg [Im 11 0,Im 4 11])
 .ret)
 .skip))
 (.seq (.seq (.reg [I1 5 (.mv (Ki 1))])
 (.block 0
 (.loop
 (.seq (.seq (.reg [Im 12 5,Im 13 0,Iz 14 13,I1 15 (.bin .lss (t 12) (t 14))])
 (.cond (t 15)
 .skip
 (.exit 0)))
 (.seq (.block 1
 (.seq (.draw 0 [(Im 18 1,[]),(Im 19 0,[]),(Im 20 5,[]),(I1 21 (.iaddr 4 (t 19) (t 20)),[]),(Ia 22 4 21,[]),(Im 23 0,[]),(Im 24 5,[]),(I1 25 (.bin .sub (t 24) (Ki 1)),[]),(I1 26 (.iaddr 4 (t 23) (t 25)),[]),(Ia 27 4 26,[]),(I1 28 (.call (t 18) [(t 22),(t 27)]),[])])
 (.cond (t 28)
 (.seq (.reg [Im 29 0,Im 30 5,I1 31 (.sls 4 (t 29) (some (t 30)) none),Im 6 31])
 (.seq (.seq (.reg [I1 7 (.mv (Ki 1))])
 (.block 2
 (.loop
 (.seq (.seq (.reg [Im 32 7,Im 33 6,Iz 34 33,I1 35 (.bin .lss (t 32) (t 34))])
 (.cond (t 35)
 .skip
 (.exit 2)))
 (.seq (.block 3
 (.seq (.draw 0 [(Im 38 1,[]),(Im 39 6,[]),(Im 40 7,[]),(I1 41 (.iaddr 4 (t 39) (t 40)),[]),(Ia 42 4 41,[]),(Im 43 6,[]),(Im 44 7,[]),(I1 45 (.bin .sub (t 44) (Ki 1)),[]),(I1 46 (.iaddr 4 (t 43) (t 45)),[]),(Ia 47 4 46,[]),(I1 48 (.call (t 38) [(t 42),(t 47)]),[]),(I1 49 (.un .not (t 48)),[])])
 (.cond (t 49)
 (.seq (.reg [Im 50 0,Im 51 5,Im 52 6,Im 53 7,I1 54 (.iaddr 4 (t 52) (t 53)),Ia 55 4 54,I1 56 (.iaddr 4 (t 50) (t 51)),Is 4 56 55])
 (.reg [Im 57 5,I1 58 (.bin .add (t 57) (Ki 1)),Im 5 58]))
 .skip)))
 (.reg [Im 36 7,I1 37 (.bin .add (t 36) (Ki 1)),Im 7 37]))))))
 (.seq (.reg [Im 59 0,Im 60 5,I1 61 (.sls 4 (t 59) (some (t 60)) none),I4 (.clr [(.int .i64 0),(.int .i64 0),(.str []),.nils] (t 61))])
 (.seq (.reg [Im 62 0,Im 63 5,I1 64 (.sls 4 (t 62) none (some (t 63))),Im 4 64])
 .ret))))
 .skip)))
 (.reg [Im 16 5,I1 17 (.bin .add (t 16) (Ki 1)),Im 5 17]))))))
 (.seq (.reg [Im 65 0,Im 4 65])
 .ret))))
theorem fn249 : Fn Tryz.prog 249 66 [.inl 4] c249:=⟨⟨_,_,Tryz.func249,rfl,by kernel_rfl,Tryz.ntmps249,by kernel_rfl,Hq1,by kernel_rfl⟩⟩
end GP
namespace GP
open Go
inductive Frz : D -> Hp -> D -> Hp -> Prop where
 | refl (r : D) (H : Hp) : Frz r H r H
 | step {r r2 : D} {H H2 : Hp} (o : Nat) (cs : List D) : H[o]? = some (.row cs) -> Frz (r.fz o cs) (H.set o .dead) r2 H2 -> Frz r H r2 H2
section
variable {P : Program}
theorem CallPost.frz {c : Cx} {w : World} {Q : Post} {e : Ending} {w' : World}
  (h : CallPost c w (fun r H' T'=>∃ r2 H2,Frz r H' r2 H2 /\ Q r2 H2 T') e w') : CallPost c w Q e w':=by
 obtain ⟨v,rfl,r,H',T',c',⟨r2,H2,hf,hq⟩,hrep,hinv,hle,hT',hbel⟩:=h
 suffices ∀ {r H' r2 H2},Frz r H' r2 H2 -> ∀ c' : Cx,Q r2 H2 T' -> Rep c' r v -> Inv c' w' H' -> c.le c' -> c'.T = T' -> CallPost c w Q (.returned v) w' from this hf c' hq hrep hinv hle hT'
 clear hf hq hrep hinv hle hT'
 intro r H' r2 H2 hf
 induction hf with
 | refl r H=>intro c' hq hrep hinv hle hT';exact ⟨v,rfl,r,H,T',c',hq,hrep,hinv,hle,hT',hbel⟩
 | step o cs ho _ ih =>
  intro c' hq hrep hinv hle hT'
  obtain ⟨vs,hv,hcell⟩:=hinv.row_at ho
  have hM:=(hinv.own o _ ho rfl).2.2.2
  exact ih (c'.fz o vs) hq (hrep.fz hv hM) (hinv.fz ho hcell) (hle.trans (fz_le hM)) hT'
def SameOb (x y : Ob) : Prop:=x = y ∨ ∃ cs,x = .row cs /\ y = .row (D.eraseL cs)
def SameH (Hm H1 : Hp) : Prop:=Hm.length = H1.length /\ ∀ (o : Nat) x y,Hm[o]? = some x -> H1[o]? = some y -> SameOb x y
theorem SameH.refl (H : Hp) : SameH H H:=⟨rfl,fun o x y h h'=>by rw [h] at h';injection h' with h';exact .inl h'⟩
theorem sameOb_live {x y : Ob} (h : SameOb x y) : x.live = y.live:=by
 rcases h with rfl | ⟨cs,rfl,rfl⟩ <;> rfl
def Crs (a b : D) : Prop:=∀ c v,Rep c a v -> Rep c b v
theorem Crs.refl (a : D) : Crs a a:=fun _ _ h=>h
theorem Crs.erase {a b : D} (h : a.erase = b) : Crs a b:=fun _ _ hr=>h ▸ hr.erase
theorem Crs.trans {a b d : D} (h : Crs a b) (k : Crs b d) : Crs a d:=fun c v hr=>k c v (h c v hr)
def LeavesE (r0 : D) (H1 : Hp) (T : Tk) : Post:=fun r H' T'=>∃ r2 H2,Frz r H' r2 H2 /\ Crs r2 r0 /\ (∃ Hm L,H2 = Hm ++ L /\ SameH Hm H1) /\ ∃ U,T' = T ++ U
def Closed (H H1 : Hp) (n : Nat) : Prop:=H.length <= H1.length /\ ∀ (o : Nat) x cs,H1[o]? = some x -> x.cells? = some cs -> H[o]? = some x ∨ D.clL H1.length n cs = true
theorem CallPost.forgetE {c : Cx} {w : World} {H H1 : Hp} {T : Tk} {Q : Post} (hi : Inv c w H) (hT : c.T = T) {r0 : D} (hcl : r0.cl H1.length T.length = true) (hC : Closed H H1 T.length) (hQ : Q r0 H1 T) {e : Ending} {w' : World}
  (h : CallPost c w (LeavesE r0 H1 T) e w') : CallPost c w Q e w':=by
 have h:=CallPost.frz (Q:=fun r2 H2 T'=>Crs r2 r0 /\ (∃ Hm L,H2 = Hm ++ L /\ SameH Hm H1) /\ ∃ U,T' = T ++ U) h
 obtain ⟨v,rfl,r,H',T',c',⟨hr,⟨Hm,L,rfl,hsl,hs⟩,⟨U,rfl⟩⟩,hrep,hinv,hle,hT',hbel⟩:=h
 have move : ∀ {d : D} {v : Value},Rep c' d v -> d.cl H1.length T.length = true -> Rep { c' with bd:=fun o=>c'.bd o && decide (o < H1.length),T:=T } d v:=fun {d v} hr hd =>
  hr.move (n:=H1.length) (m:=T.length) (c':={ c' with bd:=fun o=>c'.bd o && decide (o < H1.length),T:=T }) (fun _ _ h=>h) (fun o ho h=>by simp [h,ho]) (fun _ _=>rfl) (fun _ _=>rfl) (Nat.le_refl _) (fun τ hτ=>⟨by simp only;rw [hT',List.getElem?_append_left hτ],rfl⟩) hd
 refine ⟨v,rfl,r0,H1,T,{ c' with bd:=fun o=>c'.bd o && decide (o < H1.length),T:=T },hQ,?_,?_,?_,rfl,hbel⟩
 ·exact move (hr _ _ hrep) hcl
 ·have hlt : ∀ {o : Nat} {x : Ob},H1[o]? = some x -> o < H1.length:=fun {o x} h=>by
   rcases Nat.lt_or_ge o H1.length with h' | h'
   ·exact h'
   ·rw [List.getElem?_eq_none h'] at h;cases h
  have hget : ∀ {o : Nat} {x : Ob},H1[o]? = some x -> ∃ x',(Hm ++ L)[o]? = some x' /\ SameOb x' x:=fun {o x} h=>by
   have h1:=hlt h
   have h2 : o < Hm.length:=by omega
   refine ⟨Hm[o],by rw [List.getElem?_append_left h2,List.getElem?_eq_getElem h2],hs o _ _ (List.getElem?_eq_getElem h2) h⟩
  have htok : ∀ {τ : Nat} {x},T[τ]? = some x -> c'.T[τ]? = some x:=fun {τ x} h=>by
   have : τ < T.length:=by
    rcases Nat.lt_or_ge τ T.length with h' | h'
    ·exact h'
    ·rw [List.getElem?_eq_none h'] at h;cases h
   rw [hT',List.getElem?_append_left this];exact h
  refine ⟨hinv.keep,hinv.low,fun o x cs h hx=>?_,?_,fun o x h hx=>?_,fun o o' x x' h h' hx hx' he=>?_,fun o es h=>?_,fun o m l h=>?_,
   fun τ n z h=>hinv.tok τ n z (htok h),fun τ n z o x h h1 hx=>?_,fun τ n z τ' n' z' h h'=>hinv.toks τ n z τ' n' z' (htok h) (htok h')⟩
  ·obtain ⟨x',g1,g2⟩:=hget h
   have hclosed : D.clL H1.length T.length cs = true:=by
    rcases hC.2 o x cs h hx with h0 | h0
    ·obtain ⟨vs0,rest0,e0,fr0,q1,q2,q4,q3⟩:=(hi.row o x cs h0 hx).hold
     refine clL_of fun d hd=>?_
     obtain ⟨i,hi',rfl⟩:=List.getElem_of_mem hd
     rw [<- hT]
     refine (q2.rep i hi' (by rw [q2.len];exact hi')).cl fun o ho=>?_
     rcases Nat.lt_or_ge o H.length with h' | h'
     ·exact Nat.lt_of_lt_of_le h' hC.1
     ·rw [hi.free o (.inl h')] at ho;cases ho
    ·exact h0
   obtain ⟨vs,rest,e,fr,k1,k2,k4,k3⟩ : RowAt c' w' (c'.β o) (c'.sz o) cs:=by
    rcases g2 with rfl | ⟨cs',rfl,rfl⟩
    ·exact hinv.row o _ cs g1 hx
    ·simp only [Ob.cells?,Option.some.injEq] at hx
     subst hx
     obtain ⟨vs,rest,e,fr,k1,k2,k4,k3⟩:=hinv.row o _ cs' g1 rfl
     refine ⟨vs,rest,e,fr,k1,⟨by rw [eraseL_len];exact k2.len,fun d hd=>?_,fun i a b=>?_⟩,k4,k3⟩
     ·rw [eraseL_map] at hd
      obtain ⟨y,hy,rfl⟩:=List.mem_map.1 hd
      rw [erase_one];exact k2.one y hy
     ·have a' : i < cs'.length:=by rw [eraseL_len] at a;exact a
      rw [eraseL_get cs' i a'];exact (k2.rep i a' b).erase
   refine ⟨vs,rest,e,fr,k1,?_,k4,k3⟩
   exact ⟨k2.len,k2.one,fun i a b=>move (k2.rep i a b) (clL_mem hclosed _ (List.getElem_mem a))⟩
  ·intro o h
   rcases h with h | h
   ·have : ¬ o < H1.length:=by omega
    simp [this]
   ·obtain ⟨x',g1,g2⟩:=hget h
    have : x' = .hole:=by rcases g2 with rfl | ⟨cs,rfl,g⟩ <;> first | rfl | cases g
    subst this
    have:=hinv.free o (.inr g1)
    simp [this]
  ·obtain ⟨x',g1,g2⟩:=hget h
   obtain ⟨q1,q2,q3,q4⟩:=hinv.own o x' g1 (by rw [sameOb_live g2];exact hx)
   exact ⟨by simp [q1,hlt h],q2,q3,q4⟩
  ·obtain ⟨y,g1,g2⟩:=hget h
   obtain ⟨y',g1',g2'⟩:=hget h'
   exact hinv.apart o o' y y' g1 g1' (by rw [sameOb_live g2];exact hx) (by rw [sameOb_live g2'];exact hx') he
  ·obtain ⟨x',g1,g2⟩:=hget h
   have : x' = .map es:=by rcases g2 with rfl | ⟨cs,rfl,g⟩ <;> first | rfl | cases g
   subst this
   exact hinv.map o es g1
  ·obtain ⟨x',g1,g2⟩:=hget h
   have : x' = .iter m l:=by rcases g2 with rfl | ⟨cs,rfl,g⟩ <;> first | rfl | cases g
   subst this
   exact hinv.iter o m l g1
  ·obtain ⟨x',g1,g2⟩:=hget h1
   exact hinv.tokrow τ n z o x' (htok h) g1 (by rw [sameOb_live g2];exact hx)
 ·refine ⟨hle.M,fun o ho=>?_,fun o ho=>hle.β o ho,by simp [hT],fun τ h=>by simpa [<- hT] using h,fun τ n z h=>.inr ⟨n,by simpa [<- hT] using h,Nat.le_refl _,fun _=>?_⟩,hle.B,fun o ho=>?_⟩
  ·have : o < H1.length:=by
    rcases Nat.lt_or_ge o H.length with h' | h'
    ·exact Nat.lt_of_lt_of_le h' hC.1
    ·rw [hi.free o (.inl h')] at ho;cases ho
   simp [hle.bd o ho,this]
  ·rw [hT] at h
   have hlt : τ < T.length:=by
    rcases Nat.lt_or_ge τ T.length with h' | h'
    ·exact h'
    ·rw [List.getElem?_eq_none h'] at h;cases h
   have h2 : c'.T[τ]? = some (some (n,z)):=by rw [hT',List.getElem?_append_left hlt];exact h
   rcases hle.tok τ n z (by rw [hT];exact h) with k | ⟨n',k1,k2,k3⟩
   ·rw [k] at h2;cases h2
   ·rw [k1] at h2;injection h2 with h2;injection h2 with h2;injection h2 with h2 _
    exact k3 h2
  ·exact hle.sz o ho
variable [HasG P]
abbrev FsE:=List (FuncId × (Hp -> List D -> Option (D × Hp)))
def lookE : FsE -> Hp -> FuncId -> List D -> Option (D × Hp)
 | [],_,_,_=>none
 | (g,φ) :: l,H,f,a=>if f = g then φ H a else lookE l H f a
def inE : FsE -> FuncId -> Bool
 | [],_=>false
 | (g,_) :: l,f=>decide (f = g) || inE l f
theorem lookE_nil (H : Hp) (f : FuncId) (a : List D) : lookE [] H f a = none:=id rfl
theorem lookE_cons (g : FuncId) (φ : Hp -> List D -> Option (D × Hp)) (l : FsE) (H : Hp) (f : FuncId) (a : List D) : lookE ((g,φ) :: l) H f a = if f = g then φ H a else lookE l H f a:=id rfl
theorem inE_nil (f : FuncId) : inE [] f = false:=id rfl
theorem inE_cons (g : FuncId) (φ : Hp -> List D -> Option (D × Hp)) (l : FsE) (f : FuncId) : inE ((g,φ) :: l) f = (decide (f = g) || inE l f):=id rfl
theorem lookE_in : ∀ {l : FsE} {H : Hp} {f : FuncId} {a : List D},inE l f = false -> lookE l H f a = none
 | [],_,_,_,_=>rfl
 | (g,φ) :: l,H,f,a,h=>by
  simp only [inE,Bool.or_eq_false_iff,decide_eq_false_iff_not] at h
  simp only [lookE]
  rw [if_neg h.1];exact lookE_in h.2
def XE (l : Fs) (m : FsH) (e : FsE) : Pred:=fun f args H T Q=>match look l f (D.eraseL args) with
 | some r=>Q r H T
 | none=>match lookH m H f (D.eraseL args) with
  | some r=>Q r H T
  | none=>match lookE e H f (D.eraseL args) with
   | some (r,H')=>Q r H' T
   | none=>False
def OkAtE (P : Program) [HasG P] (f : FuncId) (φ : Hp -> List D -> Option (D × Hp)) : Prop:=∀ H args r H',φ H args = some (r,H') -> ∀ args',D.eraseL args' = args -> ∀ T (Q : Post),Q r H' T -> Snd P f args' H T Q
def OkE (P : Program) [HasG P] (m : FsE) : Prop:=∀ H f args r H',lookE m H f args = some (r,H') -> ∀ args',D.eraseL args' = args -> ∀ T (Q : Post),Q r H' T -> Snd P f args' H T Q
theorem OkE.nil : OkE P []:=fun _ _ _ _ _ h=>by simp [lookE] at h
theorem OkE.cons {f : FuncId} {φ : Hp -> List D -> Option (D × Hp)} {m : FsE} (h : OkAtE P f φ) (k : OkE P m) : OkE P ((f,φ) :: m):=by
 intro H g args r H' hr
 simp only [lookE] at hr
 split at hr
 ·rename_i e;subst e;exact h H args r H' hr
 ·exact k H g args r H' hr
theorem XE.X {l : Fs} {m : FsH} {e : FsE} (k : Ok P l) (k' : OkH P m) (k'' : OkE P e) : ∀ f args H T Q Q',(∀ r H T,Q r H T -> Q' r H T) -> XE l m e f args H T Q -> Snd P f args H T Q':=by
 intro f args H T Q Q' hQ h
 unfold XE at h
 split at h
 ·rename_i r hr
  exact k f _ r hr args rfl H T Q' (hQ _ _ _ h)
 ·split at h
  ·rename_i r hr
   exact k' H f _ r hr args rfl T Q' (hQ _ _ _ h)
  ·split at h
   ·rename_i r H' hr
    exact k'' H f _ r H' hr args rfl T Q' (hQ _ _ _ h)
   ·exact h.elim
theorem XE_mono (l : Fs) (m : FsH) (e : FsE) : Mono (XE l m e):=by
 intro f args H T Q Q' hQ h
 unfold XE at h ⊢
 split at h
 ·exact hQ _ _ _ h
 ·split at h
  ·exact hQ _ _ _ h
  ·split at h
   ·exact hQ _ _ _ h
   ·exact h.elim
def pcallN (X : Pred) (args : List D) (K : D -> S -> Prop) (s : S) (d : D) : Prop:=pcallK X args K s d
theorem pcallE {l : Fs} {m : FsH} {e : FsE} (hm : MonoH m) (args : List D) (K : D -> S -> Prop) (s : S) (f : FuncId) (first cap : List D) :
  pcallK (XE l m e) args K s (.fn f first cap) = if inE e f = true then pcallN (XE l m e) args K s (.fn f first cap) else orK K s (look l f (D.eraseL (first ++ args ++ cap))) (lookH m s.H f (D.eraseL (first ++ args ++ cap))):=by
 cases he : inE e f with
 | true=>rfl
 | false =>
  rw [if_neg (by simp)]
  have hx : ∀ a H T Q,XE l m e f a H T Q = XM l m f a H T Q:=by
   intro a H T Q
   unfold XE XM
   (rw [lookE_in he]) <;> rfl
  rw [<- pcallH hm]
  simp only [pcallK,eq_iff_iff]
  unfold Pure
  simp only [hx]
def orE (Q : Post) (T : Tk) : Option (D × Hp) -> Prop
 | some (r,H')=>Q r H' T
 | none=>False
def orX (Q : Post) (H : Hp) (T : Tk) : Option D -> Option D -> Option (D × Hp) -> Prop
 | some r,_,_=>Q r H T
 | none,some r,_=>Q r H T
 | none,none,x=>orE Q T x
theorem XE_eq (l : Fs) (m : FsH) (e : FsE) (f : FuncId) (args : List D) (H : Hp) (T : Tk) (Q : Post) : XE l m e f args H T Q = orX Q H T (look l f (D.eraseL args)) (lookH m H f (D.eraseL args)) (lookE e H f (D.eraseL args)):=by
 unfold XE
 cases look l f (D.eraseL args) with
 | some r=>rfl
 | none =>
  cases lookH m H f (D.eraseL args) with
  | some r=>rfl
  | none =>
   cases lookE e H f (D.eraseL args) with
   | some x=>rfl
   | none=>rfl
theorem orX_s (Q : Post) (H : Hp) (T : Tk) (r : D) (x : Option D) (y : Option (D × Hp)) : orX Q H T (some r) x y = Q r H T:=id rfl
theorem orX_n (Q : Post) (H : Hp) (T : Tk) (r : D) (y : Option (D × Hp)) : orX Q H T none (some r) y = Q r H T:=id rfl
theorem orX_e (Q : Post) (H : Hp) (T : Tk) (y : Option (D × Hp)) : orX Q H T none none y = orE Q T y:=id rfl
theorem orE_s (Q : Post) (T : Tk) (r : D) (H' : Hp) : orE Q T (some (r,H')) = Q r H' T:=id rfl
theorem okE_of {l : Fs} {m : FsH} {e : FsE} (hl : Ok P l) (hm : OkH P m) (hE : OkE P e) {f : FuncId} {n : Nat} {rs : List (Sum Nat (Nat × Bool × Nat))} {cc : C} (hf : Fn P f n rs cc) {φ : Hp -> List D -> Option (D × Hp)}
  (h : ∀ H args r H1,φ H args = some (r,H1) -> args.length <= n /\ r.cl H1.length 0 = true /\ Closed H H1 0 /\ ∀ T,W (XE l m e) cc (endQ rs (LeavesE r H1 T)) ⟨argT args,H,T⟩) : OkAtE P f φ:=by
 intro H args r H1 hr args' he T Q hQ
 obtain ⟨h1,h2,h4,h3⟩:=h H args r H1 hr
 have hS : Snd P f args H T (LeavesE r H1 T):=call_of hf h1 (W_mono (XE.X hl hm hE) (fun _ _ h=>h) (h3 T))
 intro c w vs kg k1 k2 k3
 have k3' : Reps c args vs:=by rw [<- he];exact k3.erase
 have hcl:=D.cl_mono (Nat.le_refl H1.length) (Nat.zero_le T.length) r h2
 have hC : Closed H H1 T.length:=⟨h4.1,fun o x cs a b=>(h4.2 o x cs a b).imp id (D.clL_mono (Nat.le_refl _) (Nat.zero_le _) cs)⟩
 rcases hS c w vs kg k1 k2 k3' with ⟨g1,g2⟩ | ⟨v,w',g1,g2⟩
 ·exact .inl ⟨g1,g2.mono fun e w' k=>CallPost.forgetE k1 k2 hcl hC hQ k⟩
 ·exact .inr ⟨v,w',g1,CallPost.forgetE k1 k2 hcl hC hQ g2⟩
theorem leavesE_of {r0 r : D} {H H' : Hp} {T T' : Tk} (h : Leaves r0 H T r H' T') : LeavesE r0 H T r H' T':=by
 obtain ⟨h1,⟨L,h2⟩,h3⟩:=h
 exact ⟨r,H',.refl _ _,.erase h1,⟨H,L,h2,SameH.refl H⟩,h3⟩
theorem leavesE_mk {r0 r : D} {H H' : Hp} {T T' : Tk} (h1 : r.erase = r0) (h2 : ∃ L,H' = H ++ L) (h3 : ∃ U,T' = T ++ U) : LeavesE r0 H T r H' T':=leavesE_of ⟨h1,h2,h3⟩
theorem lvM {r0 r : D} {H H' : Hp} {T T' : Tk} (h1 : r.erase = r0:=by first | rfl | simp [D.erase,D.eraseL]) (h2 : ∃ L,H' = H ++ L:=by first | exact ⟨_,rfl⟩ | (refine ⟨[],?_⟩;simp;done)) (h3 : ∃ U,T' = T ++ U:=by first | exact ⟨_,rfl⟩ | (refine ⟨[],?_⟩;simp;done)) : LeavesE r0 H T r H' T':=leavesE_of ⟨h1,h2,h3⟩
theorem Closed.refl (H : Hp) (n : Nat) : Closed H H n:=⟨Nat.le_refl _,fun _ _ _ h _=>.inl h⟩
theorem okF_of {l : Fs} {m : FsH} {e : FsE} (hl : Ok P l) (hm : OkH P m) (hE : OkE P e) {f : FuncId} {n : Nat} {rs : List (Sum Nat (Nat × Bool × Nat))} {cc : C} (hf : Fn P f n rs cc) {φ : List D -> Option D}
  (h : ∀ args r,φ args = some r -> args.length <= n /\ r.cl 0 0 = true /\ ∀ H T,W (XE l m e) cc (endQ rs (LeavesE r H T)) ⟨argT args,H,T⟩) : OkAt P f φ:=by
 intro args r hr args' he H T Q hQ
 refine okE_of hl hm hE hf (φ:=fun H a=>(φ a).map fun r=>(r,H)) (fun H a r H1 hr=>?_) H args r H (by simp [hr]) args' he T Q hQ
 cases ha : φ a with
 | none=>rw [ha] at hr;cases hr
 | some r' =>
  rw [ha] at hr;simp only [Option.map_some,Option.some.injEq,Prod.mk.injEq] at hr
  obtain ⟨rfl,rfl⟩:=hr
  obtain ⟨h1,h2,h3⟩:=h a r' ha
  exact ⟨h1,D.cl_mono (Nat.zero_le _) (Nat.le_refl _) r' h2,Closed.refl _ _,fun T=>h3 H T⟩
theorem okFH_of {l : Fs} {m : FsH} {e : FsE} (hl : Ok P l) (hm : OkH P m) (hE : OkE P e) {f : FuncId} {n : Nat} {rs : List (Sum Nat (Nat × Bool × Nat))} {cc : C} (hf : Fn P f n rs cc) {φ : Hp -> List D -> Option D}
  (h : ∀ H args r,φ H args = some r -> args.length <= n /\ r.cl H.length 0 = true /\ ∀ T,W (XE l m e) cc (endQ rs (LeavesE r H T)) ⟨argT args,H,T⟩) : OkAtH P f φ:=by
 intro H args r hr args' he T Q hQ
 refine okE_of hl hm hE hf (φ:=fun H a=>(φ H a).map fun r=>(r,H)) (fun H a r H1 hr=>?_) H args r H (by simp [hr]) args' he T Q hQ
 cases ha : φ H a with
 | none=>rw [ha] at hr;cases hr
 | some r' =>
  rw [ha] at hr;simp only [Option.map_some,Option.some.injEq,Prod.mk.injEq] at hr
  obtain ⟨rfl,rfl⟩:=hr
  obtain ⟨h1,h2,h3⟩:=h H a r' ha
  exact ⟨h1,h2,Closed.refl _ _,fun T=>h3 T⟩
end
end GP
namespace GP
open Go Go.Proofs Go.Sort
section
variable {P : Program}
theorem Inv.grownB {b : Bool} {c : Cx} {w w' : World} {H : Hp} (k : Inv c w H) (hb : Below (b,w.heap.size) w w') : Inv c w' H:=by
 have lt : ∀ {a : Addr} {v : Value},w.cell? a = some v -> w'.cell? a = some v:=by
  intro a v h
  have hlt : a.block < w.heap.size:=by
   rcases Nat.lt_or_ge a.block w.heap.size with h' | h'
   ·exact h'
   ·simp [World.cell?,Array.getElem?_eq_none h'] at h
  unfold World.cell? at h ⊢
  rw [hb.block _ hlt];exact h
 refine ⟨fun a v h=>lt (k.keep a v h),Nat.le_trans k.low hb.size,?_,k.free,?_,k.apart,k.map,k.iter,?_,k.tokrow,k.toks⟩
 ·intro o x cs h1 h2
  obtain ⟨vs,rest,e,fr,h,g⟩:=(k.row o x cs h1 h2).hold
  have hlt : c.β o < w.heap.size:=by
   rcases Nat.lt_or_ge (c.β o) w.heap.size with h' | h'
   ·exact h'
   ·rw [Array.getElem?_eq_none h'] at h;cases h
  exact ⟨vs,rest,e,fr,by rw [hb.block _ hlt];exact h,g⟩
 ·intro o x h1 h2
  obtain ⟨a,b,d,e⟩:=k.own o x h1 h2
  exact ⟨a,b,Nat.lt_of_lt_of_le d hb.size,e⟩
 ·intro τ n z h
  obtain ⟨a,b,d,e,f⟩:=k.tok τ n z h
  refine ⟨a,Nat.lt_of_lt_of_le b hb.size,d,e,fun j h1 h2=>?_⟩
  obtain ⟨g1,g2,g3⟩:=f j h1 h2
  have hbl : w'.heap[(c.κ τ).1.block]? = w.heap[(c.κ τ).1.block]?:=hb.block _ b
  refine ⟨?_,?_,g3⟩
  ·rw [<- g1];unfold World.cell?;rw [hbl]
  ·rw [<- g2];unfold World.frozen?;rw [hbl]
def CxT (w : World) : Cx:={ M:=w.cell?,β:=fun _=>0,κ:=fun _=>(⟨0,0,none⟩,0),bd:=fun _=>false,T:=[],bb:=(true,w.heap.size),sz:=fun _=>0 }
theorem invT (w : World) : Inv (CxT w) w [] :=
 ⟨fun _ _ h=>h,Nat.le_refl _,fun o x cs h=>by simp at h,fun _ _=>rfl,fun o x h=>by simp at h,fun o o' x x' h=>by simp at h,fun o es h=>by simp at h,fun o m l h=>by simp at h,fun τ n z h=>by simp [CxT] at h,fun τ n z o x h=>by simp [CxT] at h,fun τ n z τ' n' z' h=>by simp [CxT] at h⟩
theorem below_grow_eq {w w' : World} (h : Below (true,w.heap.size) w w') : ∃ q os,w' = grow (w.drewN q) os:=by
 refine ⟨w'.drawn - w.drawn,w'.heap.extract w.heap.size w'.heap.size,?_⟩
 obtain ⟨h1,h2,h3,h4,h5,h6⟩:=h
 have h6:=h6 rfl
 obtain ⟨heap,tape,drawn,os,output⟩:=w
 obtain ⟨heap',tape',drawn',os',output'⟩:=w'
 simp only at h1 h2 h3 h4 h5 h6
 subst h1;subst h2;subst h3
 simp only [grow,World.drewN,World.mk.injEq,and_true,true_and]
 refine ⟨?_,by omega⟩
 apply Array.ext_getElem?
 intro i
 by_cases hi : i < heap.size
 ·rw [Array.getElem?_append_left hi];exact h5 i hi
 ·rw [Array.getElem?_append_right (by omega),Array.getElem?_extract]
  by_cases hi2 : i < heap'.size
  ·rw [if_pos (by omega)];congr 1;omega
  ·rw [Array.getElem?_eq_none (by omega),if_neg (by omega)]
theorem cell_lt {w : World} {a : Addr} {v : Value} (h : w.cell? a = some v) : a.block < w.heap.size:=by
 rcases Nat.lt_or_ge a.block w.heap.size with h' | h'
 ·exact h'
 ·simp [World.cell?,Array.getElem?_eq_none h'] at h
theorem putCells_set (vs : List Value) : ∀ (w : World) (b off : Nat),putCells w b off vs = w.setCells b off vs:=by
 induction vs with
 | nil=>intros;rfl
 | cons v vs ih=>intro w b off;rw [putCells,ih];rfl
theorem flatK_list {α : Type} [Inhabited α] (enc : α -> List Value) (k : Nat) (hk : ∀ x,(enc x).length = k) (d : Array α) : (flatK enc k d).toList = (d.toList.map enc).flatten:=by
 have hl : (d.toList.map enc).flatten.length = d.size * k:=by
  rw [flat_len (sz:=k) _ (by intro x hx;obtain ⟨y,_,rfl⟩:=List.mem_map.1 hx;exact hk y)];simp
 apply List.ext_getElem?
 intro t
 by_cases ht : t < d.size * k
 ·have k0 : 0 < k := by rcases Nat.eq_zero_or_pos k with h | h; · subst h; simp at ht
                        ·exact h
  have hq : t / k < d.size:=Nat.div_lt_of_lt_mul (by rw [Nat.mul_comm];exact ht)
  have hr : t % k < k:=Nat.mod_lt _ k0
  have e:=get_flatK enc k d t ht
  have e1 : (flatK enc k d).toList[t]? = some (flatK enc k d)[t]!:=by
   rw [getElem!_pos (flatK enc k d) t (by simpa using ht)]
   simp [ht]
  have e2 : (d.toList.map enc).flatten[t / k * k + t % k]? = ((d.toList.map enc)[t / k]'(by simpa using hq))[t % k]? :=
   flat_at _ (t / k) (by simpa using hq) (t % k) (by intro x hx;obtain ⟨y,_,rfl⟩:=List.mem_map.1 hx;exact hk y) hr
  rw [Nat.div_add_mod'] at e2
  rw [e1,e,e2,List.getElem_map]
  have hx : d[t / k]! = d.toList[t / k]'(by simpa using hq):=by rw [getElem!_pos d (t / k) hq];simp
  rw [hx]
  rw [List.getElem?_eq_getElem (by rw [hk];exact hr),getElem!_pos _ _ (by rw [hk];exact hr)]
 ·rw [List.getElem?_eq_none (by simp;omega),List.getElem?_eq_none (by omega)]
theorem chunk_agg {sz : Nat} : ∀ (n : Nat) (cs : List D),∀ x ∈ chunk true sz n cs,∃ l,x = .agg l
 | 0,_,x,h=>by simp [chunk] at h
 | n + 1,cs,x,h=>by
  simp only [chunk,if_true,List.mem_cons] at h
  rcases h with rfl | h
  ·exact ⟨_,rfl⟩
  ·exact chunk_agg n _ x h
theorem put_grown {c : Cx} {w : World} {H : Hp} (k : Inv c w H) {o : Nat} {cs ds : List D} {us : List Value} (ho : H[o]? = some (.row cs)) (kc : Cells c ds us) {off : Nat} (h1 : off + ds.length <= cs.length) (m : Nat) (os : Array Obj) :
  Inv c (grow ((Sort.ahead w m).setCells (c.β o) off us) os) (H.set o (.row (cs.take off ++ ds ++ cs.drop (off + ds.length)))) /\ Below c.bb w (grow ((Sort.ahead w m).setCells (c.β o) off us) os):=by
 have k1 : Inv c (Sort.ahead w m) H:=Inv.congr (w:=w) (w':=Sort.ahead w m) rfl k
 have hf:=row_fits k ho rfl
 obtain ⟨_,g2,g3⟩:=put_inv (P:=default) k1 ho rfl kc (off:=off) (by omega) (by omega)
 rw [putCells_set] at g2 g3
 have hg : ∀ (b : Bool) (x : World),Below (b,x.heap.size) x (grow x os):=fun b x=>⟨rfl,rfl,rfl,by simp,fun i hi=>by simp [grow,Array.getElem?_append_left hi],fun _=>Nat.le_refl _⟩
 refine ⟨g2.grownB (hg false _),?_⟩
 have h0 : Below c.bb w (Sort.ahead w m):=⟨rfl,rfl,rfl,Nat.le_refl _,fun _ _=>rfl,fun _=>Nat.le_add_right _ _⟩
 exact (h0.trans g3).trans (Below.mono (b:=c.bb.1) (hg _ _) g2.low)
variable [inst : HasG P]
theorem sort_snd {ρ : Go.Shelf.Ren} (L : SlLaysF0.n6 P ρ) (k : Nat) (aE : ∀ w,(isAgg (ρ.t 24)).run P w = .ok true w) (zE : ∀ w,(Go.sizeOf (ρ.t 24)).run P w = .ok k w) {f g : FuncId} (hf : ρ.f 6 = f)
  (ef : ∀ args w,(callFunc f args).run P w = .ok (.enter f args) w) (eg : ∀ args w,(callFunc g args).run P w = .ok (.enter g args) w)
  (instB : HasG P) (hB : ∀ c w,@HasG.G P instB c w) {H : Hp} {o off n cap : Nat} {cs : List D} (ho : H[o]? = some (.row cs)) (hn : 0 < n) (hn2 : n < 2 ^ 62) (hlen : off + n * k <= cs.length)
  (cf : D -> D -> Int) (hcl : ∀ x ∈ chunk true k n (cs.drop off),x.cl 0 0 = true)
  (hcmp : ∀ x ∈ chunk true k n (cs.drop off),∀ y ∈ chunk true k n (cs.drop off),@Snd P instB g [x,y] [] [] (fun r _ _=>r = .int .i64 (cf x y)))
  (hirr : ∀ x ∈ chunk true k n (cs.drop off),¬ cf x x < 0)
  (htr : ∀ x ∈ chunk true k n (cs.drop off),∀ y ∈ chunk true k n (cs.drop off),∀ z ∈ chunk true k n (cs.drop off),cf x y < 0 -> cf y z < 0 -> cf x z < 0)
  (hnt : ∀ x ∈ chunk true k n (cs.drop off),∀ y ∈ chunk true k n (cs.drop off),∀ z ∈ chunk true k n (cs.drop off),¬ cf x y < 0 -> ¬ cf y z < 0 -> ¬ cf x z < 0)
  {T : Tk} {Q : Post} (hQ : ∀ ys : List D,ys.Perm (chunk true k n (cs.drop off)) -> ys.Pairwise (fun a b=>¬ cf b a < 0) -> Q (.tup []) (H.set o (.row (cs.take off ++ flatD ys ++ cs.drop (off + n * k)))) T) :
  @Snd P inst f [.ms true k o off n cap,.fn g [] []] H T Q:=by
 intro c w args hg k1 kT kr
 match args,kr.len with
 | [va,vf],_ =>
  have ra:=kr.rep 0 (by simp) (by simp)
  have rf:=kr.rep 1 (by simp) (by simp)
  simp only [List.getElem_cons_zero,List.getElem_cons_succ] at ra rf
  cases ra with
  | ms _ _ _ _ _ _ rc hb g1 g2 g3 =>
  cases rf with
  | fn _ _ _ vp vq hp hq _ _ =>
  match vp,vq,hp,hq with
  | [],[],_,_ =>
  refine .inl ⟨ef _ _,?_⟩
  generalize hxs : chunk true k n (cs.drop off) = xs at *
  have hxl : xs.length = n:=by rw [<- hxs];exact chunk_len ..
  obtain ⟨vs,rest,e,fr,q1,q2,q4,q3⟩:=(k1.row o _ cs ho rfl).hold
  have hvl : vs.length = cs.length:=q2.len
  have hown:=k1.own o _ ho rfl
  have hblk : c.β o < w.heap.size:=hown.2.2.1
  have hcd : Cells c (cs.drop off) (vs.drop off):=⟨by simp [q2.len],fun d hd=>q2.one d (List.mem_of_mem_drop hd),fun i h h'=>by simpa using q2.rep (off + i) (by simp at h;omega) (by simp at h';omega)⟩
  have ke:=chunk_elems (ag:=true) (sz:=k) (.inl rfl) n _ _ hcd (by simp;omega)
  rw [hxs] at ke
  obtain ⟨vss,hvss⟩ : ∃ v,chunkV k n (vs.drop off) = v:=⟨_,rfl⟩
  rw [hvss] at ke
  have hvssl : vss.length = n:=by rw [<- hvss];exact chunkV_len ..
  have hflat : vss.flatten = (vs.drop off).take (n * k):=by rw [<- hvss];exact chunkV_flat ..
  have hvl1 : ∀ v ∈ vss,v.length = k:=ke.sz'
  haveI : Inhabited (Fin n):=⟨⟨0,hn⟩⟩
  let enc : Fin n -> List Value:=fun i=>vss[i.1]'(by rw [hvssl];exact i.2)
  let el : Fin n -> D:=fun i=>xs[i.1]'(by rw [hxl];exact i.2)
  have hel : ∀ i,el i ∈ xs:=fun i=>List.getElem_mem _
  let d : Array (Fin n):=Array.ofFn id
  have hd : d.size = n:=by simp [d]
  have hk : ∀ x,(enc x).length = k:=fun x=>hvl1 _ (List.getElem_mem _)
  have hcells : ∀ i : Fin n,Cells c (el i).cells (enc i):=fun i=>ke.el i.1 (by rw [hxl];exact i.2) (by rw [hvssl];exact i.2)
  have hone : ∀ x,∀ v ∈ enc x,v.oneCell' = true:=fun x=>(hcells x).cell
  have hdE : d.toList.map enc = vss:=by
   apply List.ext_getElem
   ·simp [d,hvssl]
   ·intro i h1 h2
    simp only [d,Array.toList_ofFn,List.getElem_map,List.getElem_ofFn,id,enc]
  have hdX : d.toList.map el = xs:=by
   apply List.ext_getElem
   ·simp [d,hxl]
   ·intro i h1 h2
    simp only [d,Array.toList_ofFn,List.getElem_map,List.getElem_ofFn,id,el]
  have hH : HoldsK enc k w (c.β o) off d:=by
   intro t ht
   have ht' : t < n * k:=by simpa [hd] using ht
   have hlist:=flatK_list enc k hk d
   rw [hdE,hflat] at hlist
   have hg : (flatK enc k d)[t]! = vs[off + t]'(by omega):=by
    have : (flatK enc k d).toList[t]? = some (vs[off + t]'(by omega)):=by
     rw [hlist,List.getElem?_take_of_lt ht',List.getElem?_drop,List.getElem?_eq_getElem]
    rw [getElem!_pos (flatK enc k d) t (by simpa using ht)]
    have h2 : (flatK enc k d).toList[t]? = some ((flatK enc k d)[t]'(by simpa using ht)):=by simp [hd,ht']
    rw [h2] at this;injection this
   rw [hg]
   constructor
   ·simp only [World.cell?,q1]
    simp only [Option.isSome_none,Bool.false_eq_true,if_false,List.getElem?_toArray,id]
    rw [List.getElem?_append_left (by omega),List.getElem?_eq_getElem]
   ·simp only [World.frozen?,q1]
    have:=q3 (off + t) (by omega)
    simpa using this
  have hO : SWO (ltOf fun i j=>cf (el i) (el j)):=by
   refine ⟨fun x=>?_,fun x y z h1 h2=>?_,fun x y z h1 h2=>?_⟩
   ·simp only [ltOf,decide_eq_false_iff_not];exact hirr _ (hel x)
   ·simp only [ltOf,decide_eq_true_eq] at *;exact htr _ (hel x) _ (hel y) _ (hel z) h1 h2
   ·simp only [ltOf,decide_eq_false_iff_not] at *;exact hnt _ (hel x) _ (hel y) _ (hel z) h1 h2
  have hL : CmpLays P g #[] enc k (fun i j=>cf (el i) (el j)) (c.β o) off d.size w:=by
   intro m os dk hdk x y
   generalize hW : sortWorldK enc k w (c.β o) off m dk os = W
   have hM : ∀ a v,c.M a = some v -> W.cell? a = some v:=by
    intro a v ha
    have h0:=k1.keep a v ha
    have hlt:=cell_lt h0
    have hne : a.block ≠ c.β o:=by
     intro e
     obtain ⟨b,i,s⟩:=a
     simp only at e;subst e
     cases s with
     | none=>rw [hown.2.2.2 i] at ha;cases ha
     | some s=>simp [World.cell?,q1] at h0
    rw [<- hW]
    unfold sortWorldK
    rw [cell?_grow _ _ _ (by rw [size_putRowK];exact hlt),cell?_putRowK_other _ _ _ _ _ _ _ hne]
    exact h0
   have rep : ∀ i : Fin n,Rep (CxT W) (el i) (.agg (enc i).toArray):=by
    intro i
    obtain ⟨l,hl⟩ : ∃ l,el i = .agg l:=chunk_agg n (cs.drop off) _ (by rw [hxs];exact hel i)
    have hc:=hcells i
    rw [hl] at hc ⊢
    have r0 : Rep c (.agg l) (.agg (enc i).toArray):=.agg l (enc i) hc.len hc.one hc.rep
    have hcl':=hcl _ (hel i)
    rw [hl] at hcl'
    exact r0.move (n:=0) (m:=0) (c':=CxT W) hM (fun o h=>by omega) (fun o h=>by omega) (fun o h=>by omega) (Nat.zero_le _) (fun τ h=>by omega) hcl'
   have rr : Reps (CxT W) [el x,el y] [.agg (enc x).toArray,.agg (enc y).toArray]:=by
    refine ⟨rfl,fun i h h'=>?_⟩
    match i,h with
    | 0,_=>exact rep x
    | 1,_=>exact rep y
   rcases hcmp _ (hel x) _ (hel y) (CxT W) W _ (hB _ _) (invT W) rfl rr with ⟨_,hc⟩ | ⟨v,w',hc,_⟩
   ·refine hc.mono ?_
    rintro e w' ⟨v,rfl,r,H',T',c',hr,hrep,_,_,_,hbel⟩
    subst hr
    cases hrep
    exact ⟨rfl,below_grow_eq hbel⟩
   ·rw [eg] at hc;cases hc
  have hS:=AnyQ.slices_SortFunc L k aE zE enc hk hone (fun i j=>cf (el i) (el j)) hO g #[] (c.β o) off rc d w eg hL hH hblk (by rw [hd];omega)
  rw [hf,hd] at hS
  refine hS.mono ?_
  rintro e w' ⟨rfl,d',m,os,⟨hs1,_,hs2⟩,hs3,rfl⟩
  have hd's : d'.size = n:=by rw [hs1,hd]
  have hperm : (d'.toList).Perm d.toList:=by
   have e1 : d'.extract 0 n = d':=Array.ext (by simp [hd's]) (fun i h1 h2=>by simp)
   have e2 : d.extract 0 n = d:=Array.ext (by simp [hd]) (fun i h1 h2=>by simp)
   rw [e1,e2] at hs2;exact hs2
  let ys : List D:=d'.toList.map el
  have hys : ys.Perm xs:=by rw [<- hdX];exact hperm.map el
  have hyl : ys.length = n:=by rw [hys.length_eq,hxl]
  have hflatD : flatD ys = (d'.toList.map (fun i=>(el i).cells)).flatten:=by simp [flatD,ys,Function.comp_def]
  have hkc : Cells c (flatD ys) (flatK enc k d').toList:=by
   rw [flatK_list enc k hk]
   have : Elems c k ys (d'.toList.map enc):=by
    refine ⟨by simp [ys],fun i h h'=>?_,fun x hx=>?_⟩
    ·simp only [ys,List.getElem_map];exact hcells _
    ·obtain ⟨i,_,rfl⟩:=List.mem_map.1 hx
     rw [<- (hcells i).len];exact hk i
   exact this.cells
  have hfl : (flatD ys).length = n * k:=by
   have:=hkc.len
   simp [hd's] at this;exact this.symm
  have hw : sortWorldK enc k w (c.β o) off m d' os = grow ((Sort.ahead w m).setCells (c.β o) off (flatK enc k d').toList) os:=by
   unfold sortWorldK
   congr 1
   have hH' : HoldsK enc k (Sort.ahead w m) (c.β o) off d:=holdsK_ahead enc k w m (c.β o) off d hH
   have e0 : Sort.putRow id (Sort.ahead w m) (c.β o) off (flatK enc k d) = Sort.ahead w m:=putRow_self id _ _ _ _ hH'
   have e1:=setCells_putRow (Sort.ahead w m) (c.β o) off (flatK enc k d').toList 0 (flatK enc k d) (by simp [hd's,hd])
   rw [e0,Nat.add_zero] at e1
   rw [e1]
   unfold putRowK
   congr 1
   apply ext_get!
   ·simp [hd's,hd]
   ·intro t ht
    rw [get_setMany _ _ _ _ (by simpa [hd,hd's] using ht),if_pos (by simpa using ht)]
    simp only [Nat.sub_zero]
    rw [getElem!_pos (flatK enc k d').toList t (by simpa using ht),getElem!_pos (flatK enc k d') t (by simpa using ht)]
    simp
  rw [hw]
  obtain ⟨z1,z2⟩:=put_grown k1 ho hkc (off:=off) (by rw [hfl];exact hlen) m os
  rw [hfl] at z1
  refine ⟨_,rfl,.tup [],_,T,c,hQ ys hys ?_,.tup [] [] rfl (fun i h=>absurd h (by simp)),z1,Cx.le.refl c,kT,z2⟩
  rw [List.pairwise_iff_getElem]
  intro i j hi hj hij
  have hi' : i < n:=by rw [<- hyl];exact hi
  have hj' : j < n:=by rw [<- hyl];exact hj
  have:=hs3 i j (Nat.zero_le _) hij hj'
  simp only [ltOf,decide_eq_false_iff_not] at this
  simp only [ys,List.getElem_map]
  rw [getElem!_pos d' j (by omega),getElem!_pos d' i (by omega)] at this
  simpa using this
end
end GP
namespace GP
open Go Go.Proofs
open Rd O
set_option maxRecDepth 100000
def c49 : C :=
 (.seq (.reg [I1 2 (.alloc [(.str []),(.int .i64 0),(.int .i64 0),(.str []),.nils,(.str []),(.str []),.nils])])
 (.seq (.reg [Im 3 0,Im 4 0,I1 5 (.mkfn 104 [(t 4)] []),I1 6 (.bsl 1 [(Ks ([111,114]))]),Ic 7 103 [(t 3),(t 5),(t 6)],Is 8 2 7])
 .ret))
theorem fn49 : Fn Tryz.prog 49 8 [.inr (2,true,8)] c49:=⟨⟨_,_,Tryz.func49,rfl,by kernel_rfl,Tryz.ntmps49,by kernel_rfl,Hq0,by kernel_rfl⟩⟩
def c50 : C :=
 (.seq (.reg [I1 2 (.mv (Ki 0)),I1 3 (.mv (Ki 0))])
 (.seq (.seq (.draw 0 [(Im 4 0,[]),(In 5 4,[]),(If 6 2 5,[]),(Il 7 6,[]),(I1 8 (.bin .eql (t 7) (Ki 0)),[]),(Im 9 8,[]),(Jm 10 9 true 0,[]),(I2 11 9 (.nilc (t 10)),[]),(Jf 12 9 true 1 11,[]),(Jl 13 9 true 12,[]),(Jm 14 9 true 0,[]),(I2 15 9 (.nilc (t 14)),[]),(Jf 16 9 true 0 15,[]),(Jl 17 9 true 16,[]),(I2 18 9 (.len (t 17)),[]),(I2 19 9 (.bin .lss (t 13) (t 18)),[]),(I1 20 (.pick (t 9) (t 19) KF),[])])
 (.cond (t 20)
 (.reg [Im 21 0,Im 22 0,In 23 22,If 24 1 23,Il 25 24,Ic 26 105 [(t 21),(t 25),(Ki 2)]])
 .skip))
 (.seq (.seq (.reg [Im 27 0,In 28 27,If 29 2 28,Il 30 29,I1 31 (.bin .eql (t 30) (Ki 0))])
 (.cond (t 31)
 (.seq (.reg [I1 2 (.mv (Ki 0)),I1 3 (.mv (Ki 0))])
 .ret)
 .skip))
 (.seq (.draw 0 [(Im 32 0,[]),(In 33 32,[]),(If 34 1 33,[]),(Il 35 34,[]),(Im 36 0,[]),(In 37 36,[]),(If 38 2 37,[]),(Il 39 38,[]),(Im 2 35,[]),(Im 3 39,[])])
 .ret))))
theorem fn50 : Fn Tryz.prog 50 40 [.inl 2,.inl 3] c50:=⟨⟨_,_,Tryz.func50,rfl,by kernel_rfl,Tryz.ntmps50,by kernel_rfl,Hq0,by kernel_rfl⟩⟩
def c77 : C :=
 (.seq (.reg [I1 1 (.box (t 0)),I1 2 (.mv KF)])
 (.seq (.seq (.reg [If 3 0 1,Il 4 3])
 (.block 0
 (.seq (.seq (.reg [I1 6 (.bin .eql (t 4) (Ks ([97,116,116,114]))),Im 5 6])
 (.cond (t 5)
 .skip
 (.reg [I1 7 (.bin .eql (t 4) (Ks ([104,97,115]))),Im 5 7])))
 (.cond (t 5)
 (.seq (.reg [If 8 5 1,Il 9 8,Ip 10 126 [(t 9)],Im 11 10,Jf 12 11 true 6 1,Jl 13 11 true 12,I2 14 11 (.pcall (Kf 127) [(t 13)]),I1 15 (.pick (t 11) (t 14) KF),Im 2 15])
 .ret)
 (.seq (.reg [I1 17 (.bin .eql (t 4) (Ks ([114,111,108,101]))),Im 16 17])
 (.cond (t 16)
 (.seq (.reg [If 18 5 1,Il 19 18,I1 20 (.bin .eql (t 19) (Ks ([]))),Im 21 20,Jf 22 21 true 6 1,Jl 23 21 true 22,I2 24 21 (.pcall (Kf 128) [(t 23)]),I1 25 (.pick (t 21) (t 24) KF),Im 2 25])
 .ret)
 .skip))))))
 (.seq (.reg [If 26 5 1,Il 27 26,I1 28 (.bin .eql (t 27) (Ks ([]))),Im 29 28,Jf 30 29 true 6 1,Jl 31 29 true 30,I2 32 29 (.bin .eql (t 31) (Ks ([]))),I1 33 (.pick (t 29) (t 32) KF),Im 2 33])
 .ret)))
theorem fn77 : Fn Tryz.prog 77 34 [.inl 2] c77:=⟨⟨_,_,Tryz.func77,rfl,by kernel_rfl,Tryz.ntmps77,by kernel_rfl,Hq0,by kernel_rfl⟩⟩
def c87 : C :=
 (.seq (.reg [I1 2 (.alloc [(.int .i64 0),(.str []),(.int .i64 0)])])
 (.seq (.seq (.reg [Im 3 0,Ip 4 134 [(t 3)]])
 (.cond (t 4)
 (.seq (.reg [Im 5 0,I1 6 (.build [(.int .i64 0),(.str []),(.int .i64 0)] [(0,1,(Ki 1)),(1,1,(t 5))]),Is 3 2 6])
 .ret)
 .skip))
 (.seq (.reg [Im 7 0,I1 8 (.build [(.int .i64 0),(.str []),(.int .i64 0)] [(0,1,(Ki 5)),(1,1,(t 7))]),Is 3 2 8])
 .ret)))
theorem fn87 : Fn Tryz.prog 87 9 [.inr (2,true,3)] c87:=⟨⟨_,_,Tryz.func87,rfl,by kernel_rfl,Tryz.ntmps87,by kernel_rfl,Hq0,by kernel_rfl⟩⟩
def c117 : C :=
 (.seq (.reg [I1 4 (.mv KF)])
 (.seq (.reg [Im 6 0,Ip 7 177 [(t 6)],I1 5 (.alloc [(.int .i64 0),(.str []),(.int .i64 0)]),Is 3 5 7])
 (.seq (.reg [If 8 0 5,Il 9 8,I1 10 (.bin .eql (t 9) (Ki 1)),Im 11 10,Jf 12 11 false 0 5,Jl 13 11 false 12,I3 14 11 (.bin .eql (t 13) (Ki 5)),I1 15 (.pick (t 11) KT (t 14)),Im 16 15,Jf 17 16 true 1 5,Jl 18 16 true 17,Jm 19 16 true 1,I2 20 16 (.bin .eql (t 18) (t 19)),I1 21 (.pick (t 16) (t 20) KF),Im 4 21])
 .ret)))
theorem fn117 : Fn Tryz.prog 117 22 [.inl 4] c117:=⟨⟨_,_,Tryz.func117,rfl,by kernel_rfl,Tryz.ntmps117,by kernel_rfl,Hq0,by kernel_rfl⟩⟩
def c120 : C :=
 (.seq (.reg [I1 4 (.alloc [(.int .i64 0),(.str []),(.int .i64 0)])])
 (.seq (.reg [Im 6 0,Ip 7 177 [(t 6)],I1 5 (.alloc [(.int .i64 0),(.str []),(.int .i64 0)]),Is 3 5 7])
 (.seq (.seq (.reg [If 8 0 5,Il 9 8,Im 10 1,I1 11 (.bin .neq (t 9) (t 10))])
 (.cond (t 11)
 (.seq (.reg [Im 12 0,Im 13 0,In 14 13,If 15 1 14,Il 16 15,Ic 17 105 [(t 12),(t 16),(Ki 2)]])
 (.seq (.reg [I1 18 (.build [(.int .i64 0),(.str []),(.int .i64 0)] []),Is 3 4 18])
 .ret))
 .skip))
 (.seq (.reg [Im 19 0,In 20 19,If 21 1 20,Il 22 21,I1 23 (.bin .add (t 22) (Ki 1)),In 24 19,If 25 1 24,Is 1 25 23])
 (.seq (.reg [Ia 26 3 5,Is 3 4 26])
 .ret)))))
theorem fn120 : Fn Tryz.prog 120 27 [.inr (4,true,3)] c120:=⟨⟨_,_,Tryz.func120,rfl,by kernel_rfl,Tryz.ntmps120,by kernel_rfl,Hq0,by kernel_rfl⟩⟩
def c128 : C :=
 (.seq (.reg [I1 2 (.mv KF)])
 (.seq (.reg [Im 3 0,I1 4 (.build [(.int .i64 0),(.str []),(.int .i64 0)] [(0,1,(Ki 3)),(1,1,(t 3))]),Ip 5 166 [(t 4)],Im 2 5])
 .ret))
theorem fn128 : Fn Tryz.prog 128 6 [.inl 2] c128:=⟨⟨_,_,Tryz.func128,rfl,by kernel_rfl,Tryz.ntmps128,by kernel_rfl,Hq0,by kernel_rfl⟩⟩
def c133 : C :=
 (.seq (.reg [I1 4 (.mv (Ki 0))])
 (.seq (.seq (.reg [Im 6 0,Iz 7 6,I1 8 (.mv (Ki 0))])
 (.block 0
 (.loop
 (.seq (.reg [I1 9 (.bin .lss (t 8) (t 7))])
 (.seq (.cond (t 9)
 .skip
 (.exit 0))
 (.seq (.block 1
 (.seq (.reg [Im 10 8,Im 5 10])
 (.seq (.reg [Im 11 1,Im 12 0,Im 13 5,I1 14 (.iaddr 8 (t 12) (t 13)),Ia 15 8 14,I1 16 (.pcall (t 11) [(t 15)])])
 (.cond (t 16)
 (.seq (.reg [Im 17 5,Im 4 17])
 .ret)
 .skip))))
 (.reg [I1 18 (.bin .add (t 8) (Ki 1)),Im 8 18])))))))
 (.seq (.reg [I1 4 (.mv (k (.int .i64 (-1))))])
 .ret)))
theorem fn133 : Fn Tryz.prog 133 19 [.inl 4] c133:=⟨⟨_,_,Tryz.func133,rfl,by kernel_rfl,Tryz.ntmps133,by kernel_rfl,Hq0,by kernel_rfl⟩⟩
def c173 : C :=
 (.seq (.reg [I1 0 (.mv KN)])
 (.seq (.reg [I1 1 (.bsl 1 [(Ks ([123])),(Ks ([125])),(Ks ([40])),(Ks ([41])),(Ks ([91])),(Ks ([93])),(Ks ([59])),(Ks ([46])),(Ks ([44])),(Ks ([43])),(Ks ([45])),(Ks ([42])),(Ks ([60])),(Ks ([62])),(Ks ([61,61])),(Ks ([33,61])),(Ks ([60,61])),(Ks ([62,61]))]),Im 0 1])
 .ret))
theorem fn173 : Fn Tryz.prog 173 2 [.inl 0] c173:=⟨⟨_,_,Tryz.func173,rfl,by kernel_rfl,Tryz.ntmps173,by kernel_rfl,Hq0,by kernel_rfl⟩⟩
def c175 : C :=
 (.seq (.reg [I1 2 (.mv KF)])
 (.seq (.reg [Im 3 0,Im 4 0,I1 5 (.bin .neq (t 3) (t 4)),Im 2 5])
 .ret))
theorem fn175 : Fn Tryz.prog 175 6 [.inl 2] c175:=⟨⟨_,_,Tryz.func175,rfl,by kernel_rfl,Tryz.ntmps175,by kernel_rfl,Hq0,by kernel_rfl⟩⟩
def c179 : C :=
 (.seq (.reg [I1 1 (.box (t 0)),I1 2 (.mv KF)])
 (.seq (.seq (.reg [If 3 3 1,Il 4 3,Iz 5 4,I1 6 (.bin .gtr (t 5) (Ki 0)),Im 7 6,Jf 8 7 false 0 1,Jl 9 7 false 8,I3 10 7 (.bin .neq (t 9) (Ki 3)),Jm 11 7 false 10,Jf 12 11 true 2 1,Jl 13 11 true 12,I2 14 11 (.bin .neq (t 13) (Ks ([]))),I3 15 7 (.pick (t 11) (t 14) KF),I1 16 (.pick (t 7) KT (t 15))])
 (.cond (t 16)
 (.seq (.reg [I1 2 (.mv KF)])
 .ret)
 .skip))
 (.seq (.seq (.reg [If 17 0 1,Il 18 17])
 (.block 0
 (.seq (.reg [I1 20 (.bin .eql (t 18) (Ki 0)),Im 19 20])
 (.cond (t 19)
 (.seq (.reg [If 21 1 1,Il 22 21,I1 23 (.bin .eql (t 22) (Ki 0)),Im 2 23])
 .ret)
 (.seq (.reg [I1 25 (.bin .eql (t 18) (Ki 1)),Im 24 25])
 (.cond (t 24)
 (.seq (.reg [If 26 1 1,Il 27 26,I1 28 (.bin .eql (t 27) (Ki 0)),Im 29 28,Jf 30 29 false 1 1,Jl 31 29 false 30,I3 32 29 (.bin .eql (t 31) (Ki 1)),I1 33 (.pick (t 29) KT (t 32)),Im 2 33])
 .ret)
 (.seq (.reg [I1 35 (.bin .eql (t 18) (Ki 2)),Im 34 35])
 (.cond (t 34)
 (.seq (.reg [I1 2 (.mv KT)])
 .ret)
 (.seq (.reg [I1 37 (.bin .eql (t 18) (Ki 3)),Im 36 37])
 (.cond (t 36)
 (.seq (.reg [If 38 1 1,Il 39 38,I1 40 (.bin .eql (t 39) (Ki 0)),Im 41 40,Jf 42 41 true 2 1,Jl 43 41 true 42,I2 44 41 (.lens (t 43)),I2 45 41 (.bin .leq (t 44) (Ki 64)),I1 46 (.pick (t 41) (t 45) KF),Im 2 46])
 .ret)
 (.seq (.reg [I1 48 (.bin .eql (t 18) (Ki 4)),Im 47 48])
 (.cond (t 47)
 (.seq (.reg [If 49 1 1,Il 50 49,I1 51 (.bin .geq (t 50) (Ki 0)),Im 52 51,Jf 53 52 true 1 1,Jl 54 52 true 53,I2 55 52 (.bin .leq (t 54) (Ki 1099511627776)),I1 56 (.pick (t 52) (t 55) KF),Im 2 56])
 .ret)
 .skip))))))))))))
 (.seq (.reg [I1 2 (.mv KF)])
 .ret))))
theorem fn179 : Fn Tryz.prog 179 57 [.inl 2] c179:=⟨⟨_,_,Tryz.func179,rfl,by kernel_rfl,Tryz.ntmps179,by kernel_rfl,Hq0,by kernel_rfl⟩⟩
def c206 : C :=
 (.seq (.reg [I1 1 (.box (t 0)),I1 2 (.mv KN)])
 (.seq (.seq (.reg [If 3 0 1,Il 4 3])
 (.block 0
 (.seq (.reg [I1 6 (.bin .eql (t 4) (Ki 1)),Im 5 6])
 (.cond (t 5)
 (.seq (.reg [I1 7 (.bsl 1 [(Ks ([102,97,108,115,101])),(Ks ([116,114,117,101]))]),If 8 1 1,Il 9 8,I1 10 (.iaddr 1 (t 7) (t 9)),Il 11 10,I1 12 (.bsl 1 [(t 11)]),Ip 13 84 [(t 12)],Im 2 13])
 .ret)
 (.seq (.reg [I1 15 (.bin .eql (t 4) (Ki 3)),Im 14 15])
 (.cond (t 14)
 (.seq (.reg [If 16 2 1,Il 17 16,I1 18 (.build [(.int .i64 0),(.str []),(.int .i64 0)] [(0,1,(Ki 3)),(1,1,(t 17))]),I1 19 (.bsl 3 [(t 18)]),Im 2 19])
 .ret)
 (.seq (.reg [I1 21 (.bin .eql (t 4) (Ki 4)),Im 20 21])
 (.cond (t 20)
 (.seq (.reg [If 22 1 1,Il 23 22,I1 24 (.build [(.int .i64 0),(.str []),(.int .i64 0)] [(0,1,(Ki 4)),(2,1,(t 23))]),I1 25 (.bsl 3 [(t 24)]),Im 2 25])
 .ret)
 .skip))))))))
 (.seq (.seq (.reg [If 26 1 1,Il 27 26,I1 28 (.bin .lss (t 27) (Ki 0))])
 (.cond (t 28)
 (.seq (.draw 0 [(Ip 29 87 [(Ks ([45]))],[]),(If 30 1 1,[]),(Il 31 30,[]),(I1 32 (.un .neg (t 31)),[]),(I1 33 (.build [(.int .i64 0),(.str []),(.int .i64 0)] [(0,1,(Ki 2)),(2,1,(t 32))]),[]),(I1 34 (.bslq 3 [(t 29),(t 33)]),[]),(Im 2 34,[])])
 .ret)
 .skip))
 (.seq (.reg [If 35 1 1,Il 36 35,I1 37 (.build [(.int .i64 0),(.str []),(.int .i64 0)] [(0,1,(Ki 2)),(2,1,(t 36))]),I1 38 (.bsl 3 [(t 37)]),Im 2 38])
 .ret))))
theorem fn206 : Fn Tryz.prog 206 39 [.inl 2] c206:=⟨⟨_,_,Tryz.func206,rfl,by kernel_rfl,Tryz.ntmps206,by kernel_rfl,Hq0,by kernel_rfl⟩⟩
end GP
namespace GP
open Go Go.Proofs
open Rd O
set_option maxRecDepth 100000
def c12 : C :=
 (.seq (.reg [I1 2 (.box (t 0)),I1 4 (.mv KF)])
 (.seq (.seq (.reg [Ip 16 33 [],I1 17 (.un .not (t 16)),Im 18 17,I3 19 18 (.load true 8 (t 2)),I3 20 18 (.pcall (Kf 39) [(t 19),(Ki 40)]),I3 21 18 (.bin .gtr (t 20) (Ki 40)),I1 22 (.pick (t 18) KT (t 21)),Im 23 22,I3 24 23 (.load true 8 (t 2)),I3 25 23 (.pcall (Kf 25) [(t 24)]),I3 26 23 (.un .not (t 25)),I1 27 (.pick (t 23) KT (t 26)),Im 28 27,I3 29 28 (.load true 8 (t 2)),I3 30 28 (.pcall (Kf 21) [(t 29)]),I3 31 28 (.un .not (t 30)),I1 32 (.pick (t 28) KT (t 31)),Im 33 32,I3 34 33 (.load true 8 (t 2)),I3 35 33 (.pcall (Kf 22) [(t 34)]),I3 36 33 (.bin .gtr (t 35) (Ki 12)),I1 37 (.pick (t 33) KT (t 36))])
 (.cond (t 37)
 (.seq (.reg [Ip 38 33 [],Im 4 38])
 .ret)
 .skip))
 (.seq (.reg [Ia 39 8 2,Ip 40 34 [(t 39)],Im 5 40])
 (.seq (.reg [I1 6 (.mv KN)])
 (.seq (.seq (.reg [I1 7 (.mv (Ki 0))])
 (.block 0
 (.loop
 (.seq (.seq (.reg [Im 41 7,Im 42 5,Iz 43 42,I1 44 (.bin .lss (t 41) (t 43))])
 (.cond (t 44)
 .skip
 (.exit 0)))
 (.seq (.block 1
 (.seq (.reg [Im 47 5,Im 48 7,I1 49 (.iaddr 3 (t 47) (t 48)),If 50 0 49,Il 51 50,I1 52 (.bin .eql (t 51) (Ki 5)),Im 53 52,Jm 54 53 true 5,Jm 55 53 true 7,I2 56 53 (.iaddr 3 (t 54) (t 55)),Jf 57 53 true 1 56,Jl 58 53 true 57,I2 59 53 (.bin .eql (t 58) (Ks ([40]))),I1 60 (.pick (t 53) (t 59) KF)])
 (.cond (t 60)
 (.reg [Im 61 6,Im 62 7,I1 63 (.bsl 1 [(t 62)]),I1 64 (.app false 1 8 (t 61) (t 63)),Im 6 64])
 .skip)))
 (.reg [Im 45 7,I1 46 (.bin .add (t 45) (Ki 1)),Im 7 46]))))))
 (.seq (.seq (.reg [Im 65 6,Iz 66 65,I1 67 (.bin .eql (t 66) (Ki 0))])
 (.cond (t 67)
 (.seq (.reg [I1 4 (.mv KT)])
 .ret)
 .skip))
 (.seq (.reg [Im 68 6,Im 69 1,I1 70 (.conv .i64 (t 69)),Im 71 6,Iz 72 71,I1 73 (.bin .rem (t 70) (t 72)),I1 74 (.iaddr 1 (t 68) (t 73)),Il 75 74,Im 8 75])
 (.seq (.reg [Im 76 8,Im 9 76,I1 10 (.mv (Ki 0))])
 (.seq (.seq (.reg [Im 77 8,Im 11 77])
 (.block 2
 (.loop
 (.seq (.seq (.reg [Im 78 11,Im 79 5,Iz 80 79,I1 81 (.bin .lss (t 78) (t 80))])
 (.cond (t 81)
 .skip
 (.exit 2)))
 (.seq (.block 3
 (.seq (.seq (.reg [Im 84 5,Im 85 11,I1 86 (.iaddr 3 (t 84) (t 85)),If 87 0 86,Il 88 87,I1 89 (.bin .eql (t 88) (Ki 5)),Im 90 89,Jm 91 90 true 5,Jm 92 90 true 11,I2 93 90 (.iaddr 3 (t 91) (t 92)),Jf 94 90 true 1 93,Jl 95 90 true 94,I2 96 90 (.bin .eql (t 95) (Ks ([40]))),I1 97 (.pick (t 90) (t 96) KF)])
 (.cond (t 97)
 (.reg [Im 98 10,I1 99 (.bin .add (t 98) (Ki 1)),Im 10 99])
 .skip))
 (.seq (.seq (.reg [Im 100 5,Im 101 11,I1 102 (.iaddr 3 (t 100) (t 101)),If 103 0 102,Il 104 103,I1 105 (.bin .eql (t 104) (Ki 5)),Im 106 105,Jm 107 106 true 5,Jm 108 106 true 11,I2 109 106 (.iaddr 3 (t 107) (t 108)),Jf 110 106 true 1 109,Jl 111 106 true 110,I2 112 106 (.bin .eql (t 111) (Ks ([41]))),I1 113 (.pick (t 106) (t 112) KF)])
 (.cond (t 113)
 (.reg [Im 114 10,I1 115 (.bin .sub (t 114) (Ki 1)),Im 10 115])
 .skip))
 (.seq (.reg [Im 116 10,I1 117 (.bin .eql (t 116) (Ki 0))])
 (.cond (t 117)
 (.seq (.reg [Im 118 11,Im 9 118])
 (.exit 2))
 .skip)))))
 (.reg [Im 82 11,I1 83 (.bin .add (t 82) (Ki 1)),Im 11 83]))))))
 (.seq (.seq (.reg [Im 119 9,Im 120 8,I1 121 (.bin .eql (t 119) (t 120))])
 (.cond (t 121)
 (.seq (.reg [I1 4 (.mv KF)])
 .ret)
 .skip))
 (.seq (.reg [I1 12 (.mv KN)])
 (.seq (.reg [Im 122 12,Im 123 5,Im 124 8,I1 125 (.sls 3 (t 123) none (some (t 124))),I1 126 (.app false 3 32 (t 122) (t 125)),Im 12 126])
 (.seq (.reg [Im 127 12,Im 128 5,Im 129 8,I1 130 (.bin .add (t 129) (Ki 1)),Im 131 9,I1 132 (.sls 3 (t 128) (some (t 130)) (some (t 131))),I1 133 (.app false 3 32 (t 127) (t 132)),Im 12 133])
 (.seq (.reg [Im 134 12,Im 135 5,Im 136 9,I1 137 (.bin .add (t 136) (Ki 1)),I1 138 (.sls 3 (t 135) (some (t 137)) none),I1 139 (.app false 3 32 (t 134) (t 138)),Im 12 139])
 (.seq (.reg [Im 141 12,Ip 142 19 [(t 141)],Im 140 142,Ie 143 0 140,Ie 144 1 140,Ie 145 2 140,I1 13 (.alloc [(.str []),(.int .i64 0),(.int .i64 0),(.str []),.nils,(.str []),(.str []),.nils]),Is 8 13 143,Im 14 144,Im 15 145])
 (.seq (.reg [Im 146 15,I1 147 (.bin .neq (t 146) (Ki 0)),Im 148 147,I3 149 148 (.load true 8 (t 13)),I3 150 148 (.load true 8 (t 2)),I3 151 148 (.pcall (Kf 20) [(t 149),(t 150)]),I3 152 148 (.un .not (t 151)),I1 153 (.pick (t 148) KT (t 152)),Im 4 153])
 .ret))))))))))))))))
theorem fn12 : Fn Tryz.prog 12 154 [.inl 4] c12:=⟨⟨_,_,Tryz.func12,rfl,by kernel_rfl,Tryz.ntmps12,by kernel_rfl,Hq0,by kernel_rfl⟩⟩
def c16 : C :=
 (.seq (.reg [I1 0 (.mv KN)])
 (.seq (.reg [I1 1 (.bsl 1 [(Ks ([102,97,99,116])),(Ks ([116,114,117,116,104])),(Ks ([110,117,109,98,101,114])),(Ks ([116,101,120,116])),(Ks ([116,105,109,101])),(Ks ([98,97,103])),(Ks ([117,115,101])),(Ks ([112,111,108,105,99,121])),(Ks ([98,121])),(Ks ([102,111,114])),(Ks ([112,101,114,109,105,116])),(Ks ([100,101,110,121])),(Ks ([105,102])),(Ks ([100,117,116,121])),(Ks ([97,100,118,105,99,101])),(Ks ([116,114,117,101])),(Ks ([102,97,108,115,101])),(Ks ([110,111,119])),(Ks ([111,114])),(Ks ([97,110,100])),(Ks ([110,111,116])),(Ks ([105,110])),(Ks ([104,97,115])),(Ks ([114,111,108,101])),(Ks ([115,105,122,101])),(Ks ([115,117,98,106,101,99,116])),(Ks ([114,101,115,111,117,114,99,101])),(Ks ([97,99,116,105,111,110])),(Ks ([101,110,118]))]),Im 0 1])
 .ret))
theorem fn16 : Fn Tryz.prog 16 2 [.inl 0] c16:=⟨⟨_,_,Tryz.func16,rfl,by kernel_rfl,Tryz.ntmps16,by kernel_rfl,Hq0,by kernel_rfl⟩⟩
def c54 : C :=
 (.seq (.reg [I1 2 (.box (t 0)),I1 3 (.box (t 1)),I1 4 (.mv KF)])
 (.seq (.seq (.reg [If 8 0 2,Il 9 8,If 10 0 3,Il 11 10,I1 12 (.bin .neq (t 9) (t 11)),Im 13 12,Jf 14 13 false 1 2,Jl 15 13 false 14,Jf 16 13 false 1 3,Jl 17 13 false 16,I3 18 13 (.bin .neq (t 15) (t 17)),I1 19 (.pick (t 13) KT (t 18)),Im 20 19,Jf 21 20 false 2 2,Jl 22 20 false 21,Jf 23 20 false 2 3,Jl 24 20 false 23,I3 25 20 (.bin .neq (t 22) (t 24)),I1 26 (.pick (t 20) KT (t 25)),Im 27 26,Jf 28 27 false 3 2,Jl 29 27 false 28,I3 30 27 (.len (t 29)),Jf 31 27 false 3 3,Jl 32 27 false 31,I3 33 27 (.len (t 32)),I3 34 27 (.bin .neq (t 30) (t 33)),I1 35 (.pick (t 27) KT (t 34))])
 (.cond (t 35)
 (.seq (.reg [I1 4 (.mv KF)])
 .ret)
 .skip))
 (.seq (.seq (.reg [I1 5 (.mv (Ki 0))])
 (.block 0
 (.loop
 (.seq (.seq (.reg [Im 36 5,If 37 3 2,Il 38 37,Iz 39 38,I1 40 (.bin .lss (t 36) (t 39))])
 (.cond (t 40)
 .skip
 (.exit 0)))
 (.seq (.block 1
 (.seq (.draw 2 [(If 43 3 2,[]),(Il 44 43,[]),(Im 45 5,[]),(I1 46 (.iaddr 4 (t 44) (t 45)),[]),(Ia 47 4 46,[]),(If 48 3 3,[]),(Il 49 48,[]),(Im 50 5,[]),(I1 51 (.iaddr 4 (t 49) (t 50)),[]),(Ia 52 4 51,[]),(I1 6 (.rawAt 2 [(.int .i64 0),(.int .i64 0),(.str []),.nils]),[]),(I1 7 (.rawAt 1 [(.int .i64 0),(.int .i64 0),(.str []),.nils]),[]),(I4 (.fillAt 2 4 (t 6) (t 47)),[]),(I4 (.fillAt 1 4 (t 7) (t 52)),[])])
 (.seq (.reg [If 53 0 6,Il 54 53,If 55 0 7,Il 56 55,I1 57 (.bin .neq (t 54) (t 56)),Im 58 57,Jf 59 58 false 1 6,Jl 60 58 false 59,Jf 61 58 false 1 7,Jl 62 58 false 61,I3 63 58 (.bin .neq (t 60) (t 62)),I1 64 (.pick (t 58) KT (t 63)),Im 65 64,Jf 66 65 false 2 6,Jl 67 65 false 66,Jf 68 65 false 2 7,Jl 69 65 false 68,I3 70 65 (.bin .neq (t 67) (t 69)),I1 71 (.pick (t 65) KT (t 70)),Im 72 71,Jf 73 72 false 3 6,Jl 74 72 false 73,I3 75 72 (.len (t 74)),I3 76 72 (.bin .gtr (t 75) (Ki 0)),I1 77 (.pick (t 72) KT (t 76)),Im 78 77,Jf 79 78 false 3 7,Jl 80 78 false 79,I3 81 78 (.len (t 80)),I3 82 78 (.bin .gtr (t 81) (Ki 0)),I1 83 (.pick (t 78) KT (t 82))])
 (.cond (t 83)
 (.seq (.reg [I1 4 (.mv KF)])
 .ret)
 .skip))))
 (.reg [Im 41 5,I1 42 (.bin .add (t 41) (Ki 1)),Im 5 42]))))))
 (.seq (.reg [I1 4 (.mv KT)])
 .ret))))
theorem fn54 : Fn Tryz.prog 54 84 [.inl 4] c54:=⟨⟨_,_,Tryz.func54,rfl,by kernel_rfl,Tryz.ntmps54,by kernel_rfl,Hq0,by kernel_rfl⟩⟩
def c76 : C :=
 (.seq (.reg [I1 2 (.mv (Ki 0)),I1 3 (.mv KN)])
 (.seq (.seq (.reg [Im 4 0])
 (.block 0
 (.seq (.reg [I1 6 (.bin .eql (t 4) (Ks ([111,114]))),Im 5 6])
 (.cond (t 5)
 (.seq (.reg [I1 7 (.bsl 1 [(Ki 0),(Ki 1)]),I1 2 (.mv (Ki 0)),Im 3 7])
 .ret)
 (.seq (.reg [I1 9 (.bin .eql (t 4) (Ks ([97,110,100]))),Im 8 9])
 (.cond (t 8)
 (.seq (.reg [I1 10 (.bsl 1 [(Ki 1),(Ki 2)]),I1 2 (.mv (Ki 1)),Im 3 10])
 .ret)
 (.seq (.reg [I1 12 (.bin .eql (t 4) (Ks ([110,111,116]))),Im 11 12])
 (.cond (t 11)
 (.seq (.reg [I1 13 (.bsl 1 [(Ki 2)]),I1 2 (.mv (Ki 2)),Im 3 13])
 .ret)
 (.seq (.seq (.reg [I1 15 (.bin .eql (t 4) (Ks ([61,61]))),Im 14 15])
 (.cond (t 14)
 .skip
 (.seq (.reg [I1 16 (.bin .eql (t 4) (Ks ([33,61]))),Im 14 16])
 (.cond (t 14)
 .skip
 (.seq (.reg [I1 17 (.bin .eql (t 4) (Ks ([60]))),Im 14 17])
 (.cond (t 14)
 .skip
 (.seq (.reg [I1 18 (.bin .eql (t 4) (Ks ([60,61]))),Im 14 18])
 (.cond (t 14)
 .skip
 (.seq (.reg [I1 19 (.bin .eql (t 4) (Ks ([62]))),Im 14 19])
 (.cond (t 14)
 .skip
 (.seq (.reg [I1 20 (.bin .eql (t 4) (Ks ([62,61]))),Im 14 20])
 (.cond (t 14)
 .skip
 (.reg [I1 21 (.bin .eql (t 4) (Ks ([105,110]))),Im 14 21])))))))))))))
 (.cond (t 14)
 (.seq (.reg [I1 22 (.bsl 1 [(Ki 4),(Ki 4)]),I1 2 (.mv (Ki 3)),Im 3 22])
 .ret)
 (.seq (.seq (.reg [I1 24 (.bin .eql (t 4) (Ks ([43]))),Im 23 24])
 (.cond (t 23)
 .skip
 (.reg [I1 25 (.bin .eql (t 4) (Ks ([45]))),Im 23 25])))
 (.cond (t 23)
 (.seq (.reg [I1 26 (.bsl 1 [(Ki 4),(Ki 5)]),I1 2 (.mv (Ki 4)),Im 3 26])
 .ret)
 (.seq (.reg [I1 28 (.bin .eql (t 4) (Ks ([42]))),Im 27 28])
 (.cond (t 27)
 (.seq (.reg [I1 29 (.bsl 1 [(Ki 5),(Ki 6)]),I1 2 (.mv (Ki 5)),Im 3 29])
 .ret)
 (.seq (.reg [I1 31 (.bin .eql (t 4) (Ks ([110,101,103]))),Im 30 31])
 (.cond (t 30)
 (.seq (.reg [I1 32 (.bsl 1 [(Ki 6)]),I1 2 (.mv (Ki 6)),Im 3 32])
 .ret)
 (.seq (.reg [I1 34 (.bin .eql (t 4) (Ks ([115,105,122,101]))),Im 33 34])
 (.cond (t 33)
 (.seq (.reg [I1 35 (.bsl 1 [(Ki 0)]),I1 2 (.mv (Ki 7)),Im 3 35])
 .ret)
 (.seq (.seq (.reg [I1 37 (.bin .eql (t 4) (Ks ([118,97,108,117,101]))),Im 36 37])
 (.cond (t 36)
 .skip
 (.seq (.reg [I1 38 (.bin .eql (t 4) (Ks ([110,111,119]))),Im 36 38])
 (.cond (t 36)
 .skip
 (.seq (.reg [I1 39 (.bin .eql (t 4) (Ks ([97,116,116,114]))),Im 36 39])
 (.cond (t 36)
 .skip
 (.seq (.reg [I1 40 (.bin .eql (t 4) (Ks ([104,97,115]))),Im 36 40])
 (.cond (t 36)
 .skip
 (.reg [I1 41 (.bin .eql (t 4) (Ks ([114,111,108,101]))),Im 36 41])))))))))
 (.cond (t 36)
 (.seq (.reg [I1 2 (.mv (Ki 7)),I1 3 (.mv KN)])
 .ret)
 .skip))))))))))))))))))))
 (.seq (.reg [I1 2 (.mv (k (.int .i64 (-1)))),I1 3 (.mv KN)])
 .ret)))
theorem fn76 : Fn Tryz.prog 76 42 [.inl 2,.inl 3] c76:=⟨⟨_,_,Tryz.func76,rfl,by kernel_rfl,Tryz.ntmps76,by kernel_rfl,Hq0,by kernel_rfl⟩⟩
def c79 : C :=
 (.seq (.reg [I1 4 (.mv KF)])
 (.seq (.reg [Im 5 0,Im 6 1,Ip 7 133 [(t 5),(t 6)],I1 8 (.bin .geq (t 7) (Ki 0)),Im 4 8])
 .ret))
theorem fn79 : Fn Tryz.prog 79 9 [.inl 4] c79:=⟨⟨_,_,Tryz.func79,rfl,by kernel_rfl,Tryz.ntmps79,by kernel_rfl,Hq0,by kernel_rfl⟩⟩
def c118 : C :=
 (.seq (.reg [I1 2 (.mv (Ks ([]))),I1 3 (.mv (Ks ([])))])
 (.seq (.reg [Im 5 0,I1 6 (.bsl 1 [(Ks ([115,117,98,106,101,99,116])),(Ks ([114,101,115,111,117,114,99,101])),(Ks ([97,99,116,105,111,110])),(Ks ([101,110,118]))]),Ic 7 119 [(t 5),(t 6)],Im 4 7])
 (.seq (.reg [Im 8 0,Ic 9 71 [(t 8),(Ks ([46]))]])
 (.seq (.reg [Im 10 4,Im 11 0,Ic 12 121 [(t 11)],Im 2 10,Im 3 12])
 .ret))))
theorem fn118 : Fn Tryz.prog 118 13 [.inl 2,.inl 3] c118:=⟨⟨_,_,Tryz.func118,rfl,by kernel_rfl,Tryz.ntmps118,by kernel_rfl,Hq0,by kernel_rfl⟩⟩
def c121 : C :=
 (.seq (.reg [I1 2 (.mv (Ks ([])))])
 (.seq (.seq (.reg [Im 4 0,Ip 5 177 [(t 4)],I1 3 (.alloc [(.int .i64 0),(.str []),(.int .i64 0)]),Is 3 3 5])
 (.seq (.reg [If 6 0 3,Il 7 6,I1 8 (.bin .neq (t 7) (Ki 1)),Im 9 8,Jf 10 9 false 1 3,Jl 11 9 false 10,I3 12 9 (.pcall (Kf 17) [(t 11)]),I1 13 (.pick (t 9) KT (t 12))])
 (.cond (t 13)
 (.seq (.reg [Im 14 0,Im 15 0,In 16 15,If 17 1 16,Il 18 17,Ic 19 105 [(t 14),(t 18),(Ki 2)]])
 (.seq (.reg [I1 2 (.mv (Ks ([])))])
 .ret))
 .skip)))
 (.seq (.reg [Im 20 0,Ic 21 120 [(t 20),(Ki 1)],I1 22 (.field false 1 1 (t 21)),Im 2 22])
 .ret)))
theorem fn121 : Fn Tryz.prog 121 23 [.inl 2] c121:=⟨⟨_,_,Tryz.func121,rfl,by kernel_rfl,Tryz.ntmps121,by kernel_rfl,Hq0,by kernel_rfl⟩⟩
def c126 : C :=
 (.seq (.reg [I1 2 (.mv KF)])
 (.seq (.reg [I1 3 (.bsl 1 [(Ks ([115,117,98,106,101,99,116])),(Ks ([114,101,115,111,117,114,99,101])),(Ks ([97,99,116,105,111,110])),(Ks ([101,110,118]))]),Im 4 0,Ip 5 47 [(t 3),(t 4)],Im 2 5])
 .ret))
theorem fn126 : Fn Tryz.prog 126 6 [.inl 2] c126:=⟨⟨_,_,Tryz.func126,rfl,by kernel_rfl,Tryz.ntmps126,by kernel_rfl,Hq0,by kernel_rfl⟩⟩
def c163 : C :=
 (.seq (.reg [I1 2 (.mv KF)])
 (.seq (.reg [Im 3 0,I1 4 (.bin .geq (t 3) (k (.int .u8 48))),Im 5 4,Jm 6 5 true 0,I2 7 5 (.bin .leq (t 6) (k (.int .u8 57))),I1 8 (.pick (t 5) (t 7) KF),Im 2 8])
 .ret))
theorem fn163 : Fn Tryz.prog 163 9 [.inl 2] c163:=⟨⟨_,_,Tryz.func163,rfl,by kernel_rfl,Tryz.ntmps163,by kernel_rfl,Hq0,by kernel_rfl⟩⟩
def c170 : C :=
 (.seq (.reg [I1 2 (.alloc [(.str []),(.int .i64 0),(.int .i64 0),(.str []),.nils,(.str []),(.str []),.nils])])
 (.seq (.seq (.reg [Im 3 0,Ic 4 69 [(t 3),(Ks ([110,111,116]))]])
 (.cond (t 4)
 (.seq (.reg [Im 5 0,Ic 6 170 [(t 5)],I1 7 (.bsl 8 [(t 6)]),I1 8 (.build [(.str []),(.int .i64 0),(.int .i64 0),(.str []),.nils,(.str []),(.str []),.nils] [(0,1,(Ks ([110,111,116]))),(7,1,(t 7))]),Is 8 2 8])
 .ret)
 .skip))
 (.seq (.reg [Im 9 0,Ic 10 202 [(t 9)],Is 8 2 10])
 .ret)))
theorem fn170 : Fn Tryz.prog 170 11 [.inr (2,true,8)] c170:=⟨⟨_,_,Tryz.func170,rfl,by kernel_rfl,Tryz.ntmps170,by kernel_rfl,Hq0,by kernel_rfl⟩⟩
def c203 : C :=
 (.seq (.reg [I1 4 (.mv (Ki 0))])
 (.seq (.seq (.reg [Im 5 0,Im 6 1,I1 7 (.bin .lss (t 5) (t 6))])
 (.cond (t 7)
 (.seq (.reg [I1 4 (.mv (k (.int .i64 (-1))))])
 .ret)
 .skip))
 (.seq (.seq (.reg [Im 8 0,Im 9 1,I1 10 (.bin .gtr (t 8) (t 9))])
 (.cond (t 10)
 (.seq (.reg [I1 4 (.mv (Ki 1))])
 .ret)
 .skip))
 (.seq (.reg [I1 4 (.mv (Ki 0))])
 .ret))))
theorem fn203 : Fn Tryz.prog 203 11 [.inl 4] c203:=⟨⟨_,_,Tryz.func203,rfl,by kernel_rfl,Tryz.ntmps203,by kernel_rfl,Hq0,by kernel_rfl⟩⟩
def c244 : C :=
 (.seq (.reg [I1 2 (.alloc [(.int .i64 0),(.int .i64 0),(.str []),.nils])])
 (.seq (.seq (.reg [Im 3 0])
 (.cond (t 3)
 (.seq (.reg [I1 4 (.build [(.int .i64 0),(.int .i64 0),(.str []),.nils] [(0,1,(Ki 1)),(1,1,(Ki 1))]),Is 4 2 4])
 .ret)
 .skip))
 (.seq (.reg [I1 5 (.build [(.int .i64 0),(.int .i64 0),(.str []),.nils] [(0,1,(Ki 1))]),Is 4 2 5])
 .ret)))
theorem fn244 : Fn Tryz.prog 244 6 [.inr (2,true,4)] c244:=⟨⟨_,_,Tryz.func244,rfl,by kernel_rfl,Tryz.ntmps244,by kernel_rfl,Hq0,by kernel_rfl⟩⟩
end GP
