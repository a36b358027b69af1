import Derived.Shelf.SlSortCmp.WholeK
import Derived.Test.YtainhmbnbgonhaaGreatDoorProg
import Derived.Test.YtainhmbnbgonhaaGreatDoorM5
set_option linter.unusedSimpArgs false
set_option linter.unnecessarySimpa false
namespace GP
open Go Go.Proofs Go.Sort
section
variable {P : Program}
theorem Inv.grownB {b : Bool} {c : Cx} {w w' : World} {H : Hp} (k : Inv c w H) (hb : Below (b,w.heap.size) w w') : Inv c w' H:=by
 have lt : ∀ {a : Addr} {v : Value},w.cell? a = some v -> w'.cell? a = some v:=by
  intro a v h
  have hlt : a.block < w.heap.size:=by
   rcases Nat.lt_or_ge a.block w.heap.size with h' | h'
   ·exact h'
   ·simp [World.cell?,Array.getElem?_eq_none h'] at h
  unfold World.cell? at h ⊢
  rw [hb.block _ hlt];exact h
 refine ⟨fun a v h=>lt (k.keep a v h),Nat.le_trans k.low hb.size,?_,k.free,?_,k.apart,fun o es clk ho=>⟨(k.map o es clk ho).1,by rw [hb.block _ (k.own o _ ho rfl).2.2.1];exact (k.map o es clk ho).2⟩,k.iter,?_,k.tokrow,k.toks⟩
 ·intro o x cs h1 h2
  obtain ⟨vs,rest,e,fr,h,g⟩:=(k.row o x cs h1 h2).hold
  have hlt : c.β o < w.heap.size:=by
   rcases Nat.lt_or_ge (c.β o) w.heap.size with h' | h'
   ·exact h'
   ·rw [Array.getElem?_eq_none h'] at h;cases h
  exact ⟨vs,rest,e,fr,by rw [hb.block _ hlt];exact h,g⟩
 ·intro o x h1 h2
  obtain ⟨a,b,d,e⟩:=k.own o x h1 h2
  exact ⟨a,b,Nat.lt_of_lt_of_le d hb.size,e⟩
 ·intro τ n z h
  obtain ⟨a,b,d,e,f⟩:=k.tok τ n z h
  refine ⟨a,Nat.lt_of_lt_of_le b hb.size,d,e,fun j h1 h2=>?_⟩
  obtain ⟨g1,g2,g3⟩:=f j h1 h2
  have hbl : w'.heap[(c.κ τ).1.block]? = w.heap[(c.κ τ).1.block]?:=hb.block _ b
  refine ⟨?_,?_,g3⟩
  ·rw [<- g1];unfold World.cell?;rw [hbl]
  ·rw [<- g2];unfold World.frozen?;rw [hbl]
def CxT (w : World) : Cx:={ M:=w.cell?,β:=fun _=>0,κ:=fun _=>(⟨0,0,none⟩,0),bd:=fun _=>false,T:=[],bb:=(true,w.heap.size),sz:=fun _=>0 }
theorem Zk (w : World) : Inv (CxT w) w [] :=
 ⟨fun _ _ h=>h,Nat.le_refl _,fun o x cs h=>by simp at h,fun _ _=>rfl,fun o x h=>by simp at h,fun o o' x x' h=>by simp at h,fun o es clk h=>by simp at h,fun o m l h=>by simp at h,fun τ n z h=>by simp [CxT] at h,fun τ n z o x h=>by simp [CxT] at h,fun τ n z τ' n' z' h=>by simp [CxT] at h⟩
theorem CD {w w' : World} (h : Below (true,w.heap.size) w w') : ∃ q os,w' = grow (w.drewN q) os:=by
 refine ⟨w'.drawn - w.drawn,w'.heap.extract w.heap.size w'.heap.size,?_⟩
 obtain ⟨h1,h2,h3,h4,h5,h6⟩:=h
 have h6:=h6 rfl
 obtain ⟨heap,tape,drawn,os,output⟩:=w
 obtain ⟨heap',tape',drawn',os',output'⟩:=w'
 simp only at h1 h2 h3 h4 h5 h6
 subst h1;subst h2;subst h3
 simp only [grow,World.drewN,World.mk.injEq,and_true,true_and]
 refine ⟨?_,by omega⟩
 apply Array.ext_getElem?
 intro i
 by_cases hi : i < heap.size
 ·rw [Array.getElem?_append_left hi];exact h5 i hi
 ·rw [Array.getElem?_append_right (by omega),Array.getElem?_extract]
  by_cases hi2 : i < heap'.size
  ·rw [if_pos (by omega)];congr 1;omega
  ·rw [Array.getElem?_eq_none (by omega),if_neg (by omega)]
theorem PF {w : World} {a : Addr} {v : Value} (h : w.cell? a = some v) : a.block < w.heap.size:=by
 rcases Nat.lt_or_ge a.block w.heap.size with h' | h'
 ·exact h'
 ·simp [World.cell?,Array.getElem?_eq_none h'] at h
theorem E0 (vs : List Value) : ∀ (w : World) (b off : Nat),aV w b off vs = w.setCells b off vs:=by
 induction vs with
 | nil=>intros;rfl
 | cons v vs ih=>intro w b off;rw [aV,ih];rfl
theorem Bh {α : Type} [Inhabited α] (enc : α -> List Value) (k : Nat) (hk : ∀ x,(enc x).length = k) (d : Array α) : (flatK enc k d).toList = (d.toList.map enc).flatten:=by
 have hl : (d.toList.map enc).flatten.length = d.size * k:=by
  rw [eW (sz:=k) _ (by intro x hx;obtain ⟨y,_,rfl⟩:=List.mem_map.1 hx;exact hk y)];simp
 apply List.ext_getElem?
 intro t
 by_cases ht : t < d.size * k
 ·have k0 : 0 < k:=by
   rcases Nat.eq_zero_or_pos k with h | h
   ·subst h;simp at ht
   ·exact h
  have hq : t / k < d.size:=Nat.div_lt_of_lt_mul (by rw [Nat.mul_comm];exact ht)
  have hr : t % k < k:=Nat.mod_lt _ k0
  have e:=get_flatK enc k d t ht
  have e1 : (flatK enc k d).toList[t]? = some (flatK enc k d)[t]!:=by
   rw [getElem!_pos (flatK enc k d) t (by simpa using ht)]
   simp [ht]
  have e2 : (d.toList.map enc).flatten[t / k * k + t % k]? = ((d.toList.map enc)[t / k]'(by simpa using hq))[t % k]? :=
   wX _ (t / k) (by simpa using hq) (t % k) (by intro x hx;obtain ⟨y,_,rfl⟩:=List.mem_map.1 hx;exact hk y) hr
  rw [Nat.div_add_mod'] at e2
  rw [e1,e,e2,List.getElem_map]
  have hx : d[t / k]! = d.toList[t / k]'(by simpa using hq):=by rw [getElem!_pos d (t / k) hq];simp
  rw [hx]
  rw [List.getElem?_eq_getElem (by rw [hk];exact hr),getElem!_pos _ _ (by rw [hk];exact hr)]
 ·rw [List.getElem?_eq_none (by simp;omega),List.getElem?_eq_none (by omega)]
theorem Cz {sz : Nat} : ∀ (n : Nat) (cs : List D),∀ x ∈ dJ true sz n cs,∃ l,x = .agg l
 | 0,_,x,h=>by simp [dJ] at h
 | n + 1,cs,x,h=>by
  simp only [dJ,if_true,List.mem_cons] at h
  rcases h with rfl | h
  ·exact ⟨_,rfl⟩
  ·exact Cz n _ x h
theorem JY {c : Cx} {w : World} {H : Hp} (k : Inv c w H) {o : Nat} {cs ds : List D} {us : List Value} (ho : H[o]? = some (.row cs)) (kc : Cells c ds us) {off : Nat} (h1 : off + ds.length <= cs.length) (m : Nat) (os : Array Obj) :
  Inv c (grow ((Sort.ahead w m).setCells (c.β o) off us) os) (H.set o (.row (cs.take off ++ ds ++ cs.drop (off + ds.length)))) /\ Below c.bb w (grow ((Sort.ahead w m).setCells (c.β o) off us) os):=by
 have k1 : Inv c (Sort.ahead w m) H:=Inv.congr (w:=w) (w':=Sort.ahead w m) rfl k
 have hf:=vS k ho rfl
 obtain ⟨_,g2,g3⟩:=vR (P:=default) k1 ho rfl kc (off:=off) (by omega) (by omega)
 rw [E0] at g2 g3
 have hg : ∀ (b : Bool) (x : World),Below (b,x.heap.size) x (grow x os):=fun b x=>⟨rfl,rfl,rfl,by simp,fun i hi=>by simp [grow,Array.getElem?_append_left hi],fun _=>Nat.le_refl _⟩
 refine ⟨g2.grownB (hg false _),?_⟩
 have h0 : Below c.bb w (Sort.ahead w m):=⟨rfl,rfl,rfl,Nat.le_refl _,fun _ _=>rfl,fun _=>Nat.le_add_right _ _⟩
 exact (h0.trans g3).trans (Below.mono (b:=c.bb.1) (hg _ _) g2.low)
variable [inst : HasG P]
theorem MM {ρ : Go.Shelf.Ren} (L : SlLaysF0.n6 P ρ) (k : Nat) (aE : ∀ w,(isAgg (ρ.t 24)).run P w = .ok true w) (zE : ∀ w,(Go.sizeOf (ρ.t 24)).run P w = .ok k w) {f g : FuncId} (hf : ρ.f 6 = f)
  (ef : ∀ args w,(callFunc f args).run P w = .ok (.enter f args) w) (eg : ∀ args w,(callFunc g args).run P w = .ok (.enter g args) w)
  (instB : HasG P) (hB : ∀ c w,@HasG.G P instB c w) {H : Hp} {o off n cap : Nat} {cs : List D} (ho : H[o]? = some (.row cs)) (hn : 0 < n) (hn2 : n < 2 ^ 62) (hlen : off + n * k <= cs.length)
  (cf : D -> D -> Int) (hcl : ∀ x ∈ dJ true k n (cs.drop off),x.cl 0 0 = true)
  (hcmp : ∀ x ∈ dJ true k n (cs.drop off),∀ y ∈ dJ true k n (cs.drop off),@Snd P instB g [x,y] [] [] (fun r _ _=>r = .int .i64 (cf x y)))
  (hirr : ∀ x ∈ dJ true k n (cs.drop off),¬ cf x x < 0)
  (htr : ∀ x ∈ dJ true k n (cs.drop off),∀ y ∈ dJ true k n (cs.drop off),∀ z ∈ dJ true k n (cs.drop off),cf x y < 0 -> cf y z < 0 -> cf x z < 0)
  (hnt : ∀ x ∈ dJ true k n (cs.drop off),∀ y ∈ dJ true k n (cs.drop off),∀ z ∈ dJ true k n (cs.drop off),¬ cf x y < 0 -> ¬ cf y z < 0 -> ¬ cf x z < 0)
  {T : Tk} {Q : dM} (hQ : ∀ ys : List D,ys.Perm (dJ true k n (cs.drop off)) -> ys.Pairwise (fun a b=>¬ cf b a < 0) -> Q (.tup []) (H.set o (.row (cs.take off ++ aT ys ++ cs.drop (off + n * k)))) T) :
  @Snd P inst f [.ms true k o off n cap,.fn g [] []] H T Q:=by
 intro c w args hg k1 kT kr
 match args,kr.len with
 | [va,vf],_ =>
  have ra:=kr.rep 0 (by simp) (by simp)
  have rf:=kr.rep 1 (by simp) (by simp)
  simp only [List.getElem_cons_zero,List.getElem_cons_succ] at ra rf
  cases ra with
  | ms _ _ _ _ _ _ rc hb g1 g2 g3 =>
  cases rf with
  | fn _ _ _ vp vq hp hq _ _ =>
  match vp,vq,hp,hq with
  | [],[],_,_ =>
  refine .inl ⟨ef _ _,?_⟩
  generalize hxs : dJ true k n (cs.drop off) = xs at *
  have hxl : xs.length = n:=by rw [<- hxs];exact jL ..
  obtain ⟨vs,rest,e,fr,q1,q2,q4,q3⟩:=(k1.row o _ cs ho rfl).hold
  have hvl : vs.length = cs.length:=q2.len
  have hown:=k1.own o _ ho rfl
  have hblk : c.β o < w.heap.size:=hown.2.2.1
  have hcd : Cells c (cs.drop off) (vs.drop off):=⟨by simp [q2.len],fun d hd=>q2.one d (List.mem_of_mem_drop hd),fun i h h'=>by simpa using q2.rep (off + i) (by simp at h;omega) (by simp at h';omega)⟩
  have ke:=mD (ag:=true) (sz:=k) (.inl rfl) n _ _ hcd (by simp;omega)
  rw [hxs] at ke
  obtain ⟨vss,hvss⟩ : ∃ v,lA k n (vs.drop off) = v:=⟨_,rfl⟩
  rw [hvss] at ke
  have hvssl : vss.length = n:=by rw [<- hvss];exact uI ..
  have hflat : vss.flatten = (vs.drop off).take (n * k):=by rw [<- hvss];exact k9 ..
  have hvl1 : ∀ v ∈ vss,v.length = k:=ke.sz'
  haveI : Inhabited (Fin n):=⟨⟨0,hn⟩⟩
  let enc : Fin n -> List Value:=fun i=>vss[i.1]'(by rw [hvssl];exact i.2)
  let el : Fin n -> D:=fun i=>xs[i.1]'(by rw [hxl];exact i.2)
  have hel : ∀ i,el i ∈ xs:=fun i=>List.getElem_mem _
  let d : Array (Fin n):=Array.ofFn id
  have hd : d.size = n:=by simp [d]
  have hk : ∀ x,(enc x).length = k:=fun x=>hvl1 _ (List.getElem_mem _)
  have hcells : ∀ i : Fin n,Cells c (el i).cells (enc i):=fun i=>ke.el i.1 (by rw [hxl];exact i.2) (by rw [hvssl];exact i.2)
  have hone : ∀ x,∀ v ∈ enc x,v.oneCell' = true:=fun x=>(hcells x).cell
  have hdE : d.toList.map enc = vss:=by
   apply List.ext_getElem
   ·simp [d,hvssl]
   ·intro i h1 h2
    simp only [d,Array.toList_ofFn,List.getElem_map,List.getElem_ofFn,id,enc]
  have hdX : d.toList.map el = xs:=by
   apply List.ext_getElem
   ·simp [d,hxl]
   ·intro i h1 h2
    simp only [d,Array.toList_ofFn,List.getElem_map,List.getElem_ofFn,id,el]
  have hH : HoldsK enc k w (c.β o) off d:=by
   intro t ht
   have ht' : t < n * k:=by simpa [hd] using ht
   have hlist:=Bh enc k hk d
   rw [hdE,hflat] at hlist
   have hg : (flatK enc k d)[t]! = vs[off + t]'(by omega):=by
    have : (flatK enc k d).toList[t]? = some (vs[off + t]'(by omega)):=by
     rw [hlist,List.getElem?_take_of_lt ht',List.getElem?_drop,List.getElem?_eq_getElem]
    rw [getElem!_pos (flatK enc k d) t (by simpa using ht)]
    have h2 : (flatK enc k d).toList[t]? = some ((flatK enc k d)[t]'(by simpa using ht)):=by simp [hd,ht']
    rw [h2] at this;injection this
   rw [hg]
   constructor
   ·simp only [World.cell?,q1]
    simp only [Option.isSome_none,Bool.false_eq_true,if_false,List.getElem?_toArray,id]
    rw [List.getElem?_append_left (by omega),List.getElem?_eq_getElem]
   ·simp only [World.frozen?,q1]
    have:=q3 (off + t) (by omega)
    simpa using this
  have hO : SWO (ltOf fun i j=>cf (el i) (el j)):=by
   refine ⟨fun x=>?_,fun x y z h1 h2=>?_,fun x y z h1 h2=>?_⟩
   ·simp only [ltOf,decide_eq_false_iff_not];exact hirr _ (hel x)
   ·simp only [ltOf,decide_eq_true_eq] at *;exact htr _ (hel x) _ (hel y) _ (hel z) h1 h2
   ·simp only [ltOf,decide_eq_false_iff_not] at *;exact hnt _ (hel x) _ (hel y) _ (hel z) h1 h2
  have hL : CmpLays P g #[] enc k (fun i j=>cf (el i) (el j)) (c.β o) off d.size w:=by
   intro m os dk hdk x y
   generalize hW : sortWorldK enc k w (c.β o) off m dk os = W
   have hM : ∀ a v,c.M a = some v -> W.cell? a = some v:=by
    intro a v ha
    have h0:=k1.keep a v ha
    have hlt:=PF h0
    have hne : a.block ≠ c.β o:=by
     intro e
     obtain ⟨b,i,s⟩:=a
     simp only at e;subst e
     cases s with
     | none=>rw [hown.2.2.2 i] at ha;cases ha
     | some s=>simp [World.cell?,q1] at h0
    rw [<- hW]
    unfold sortWorldK
    rw [cell?_grow _ _ _ (by rw [size_putRowK];exact hlt),cell?_putRowK_other _ _ _ _ _ _ _ hne]
    exact h0
   have rep : ∀ i : Fin n,Rep (CxT W) (el i) (.agg (enc i).toArray):=by
    intro i
    obtain ⟨l,hl⟩ : ∃ l,el i = .agg l:=Cz n (cs.drop off) _ (by rw [hxs];exact hel i)
    have hc:=hcells i
    rw [hl] at hc ⊢
    have r0 : Rep c (.agg l) (.agg (enc i).toArray):=.agg l (enc i) hc.len hc.one hc.rep
    have hcl':=hcl _ (hel i)
    rw [hl] at hcl'
    exact r0.move (n:=0) (m:=0) (c':=CxT W) hM (fun o h=>by omega) (fun o h=>by omega) (fun o h=>by omega) (Nat.zero_le _) (fun τ h=>by omega) hcl'
   have rr : Reps (CxT W) [el x,el y] [.agg (enc x).toArray,.agg (enc y).toArray]:=by
    refine ⟨rfl,fun i h h'=>?_⟩
    match i,h with
    | 0,_=>exact rep x
    | 1,_=>exact rep y
   rcases hcmp _ (hel x) _ (hel y) (CxT W) W _ (hB _ _) (Zk W) rfl rr with ⟨_,hc⟩ | ⟨v,w',hc,_⟩
   ·refine hc.mono ?_
    rintro e w' ⟨v,rfl,r,H',T',c',hr,hrep,_,_,_,hbel⟩
    subst hr
    cases hrep
    exact ⟨rfl,CD hbel⟩
   ·rw [eg] at hc;cases hc
  have hS:=AnyQ.slices_SortFunc L k aE zE enc hk hone (fun i j=>cf (el i) (el j)) hO g #[] (c.β o) off rc d w eg hL hH hblk (by rw [hd];omega)
  rw [hf,hd] at hS
  refine hS.mono ?_
  rintro e w' ⟨rfl,d',m,os,⟨hs1,_,hs2⟩,hs3,rfl⟩
  have hd's : d'.size = n:=by rw [hs1,hd]
  have hperm : (d'.toList).Perm d.toList:=by
   have e1 : d'.extract 0 n = d':=Array.ext (by simp [hd's]) (fun i h1 h2=>by simp)
   have e2 : d.extract 0 n = d:=Array.ext (by simp [hd]) (fun i h1 h2=>by simp)
   rw [e1,e2] at hs2;exact hs2
  let ys : List D:=d'.toList.map el
  have hys : ys.Perm xs:=by rw [<- hdX];exact hperm.map el
  have hyl : ys.length = n:=by rw [hys.length_eq,hxl]
  have hflatD : aT ys = (d'.toList.map (fun i=>(el i).cells)).flatten:=by simp [aT,ys,Function.comp_def]
  have hkc : Cells c (aT ys) (flatK enc k d').toList:=by
   rw [Bh enc k hk]
   have : Elems c k ys (d'.toList.map enc):=by
    refine ⟨by simp [ys],fun i h h'=>?_,fun x hx=>?_⟩
    ·simp only [ys,List.getElem_map];exact hcells _
    ·obtain ⟨i,_,rfl⟩:=List.mem_map.1 hx
     rw [<- (hcells i).len];exact hk i
   exact this.cells
  have hfl : (aT ys).length = n * k:=by
   have:=hkc.len
   simp [hd's] at this;exact this.symm
  have hw : sortWorldK enc k w (c.β o) off m d' os = grow ((Sort.ahead w m).setCells (c.β o) off (flatK enc k d').toList) os:=by
   unfold sortWorldK
   congr 1
   have hH' : HoldsK enc k (Sort.ahead w m) (c.β o) off d:=holdsK_ahead enc k w m (c.β o) off d hH
   have e0 : Sort.putRow id (Sort.ahead w m) (c.β o) off (flatK enc k d) = Sort.ahead w m:=putRow_self id _ _ _ _ hH'
   have e1:=setCells_putRow (Sort.ahead w m) (c.β o) off (flatK enc k d').toList 0 (flatK enc k d) (by simp [hd's,hd])
   rw [e0,Nat.add_zero] at e1
   rw [e1]
   unfold putRowK
   congr 1
   apply ext_get!
   ·simp [hd's,hd]
   ·intro t ht
    rw [get_setMany _ _ _ _ (by simpa [hd,hd's] using ht),if_pos (by simpa using ht)]
    simp only [Nat.sub_zero]
    rw [getElem!_pos (flatK enc k d').toList t (by simpa using ht),getElem!_pos (flatK enc k d') t (by simpa using ht)]
    simp
  rw [hw]
  obtain ⟨z1,z2⟩:=JY k1 ho hkc (off:=off) (by rw [hfl];exact hlen) m os
  rw [hfl] at z1
  refine ⟨_,rfl,.tup [],_,T,c,hQ ys hys ?_,.tup [] [] rfl (fun i h=>absurd h (by simp)),z1,Cx.le.refl c,kT,z2⟩
  rw [List.pairwise_iff_getElem]
  intro i j hi hj hij
  have hi' : i < n:=by rw [<- hyl];exact hi
  have hj' : j < n:=by rw [<- hyl];exact hj
  have:=hs3 i j (Nat.zero_le _) hij hj'
  simp only [ltOf,decide_eq_false_iff_not] at this
  simp only [ys,List.getElem_map]
  rw [getElem!_pos d' j (by omega),getElem!_pos d' i (by omega)] at this
  simpa using this
end
end GP
namespace GP
open Go Go.Proofs
open Rd O
set_option maxRecDepth 100000
def c31 : C :=
 (Rg ([I1 2 (.alloc [.nils,(.str []),.nils]),I1 3 (.mv (Ki 0)),I1 4 (.mv (Ki 0))])
 (.seq (Rg ([Im 9 0,Iz 10 9,I1 11 (.bin .gtr (t 10) (Ki 600))])
 (.cond (t 11)
 (Rg ([I1 12 (.build [.nils,(.str []),.nils] []),Is 3 2 12,I1 3 (.mv (Ki 0)),I1 4 (.mv (Ki 13))])
 .ret)
 .skip))
 (Rg ([Im 13 0,I1 14 (.build [.nils,(.int .i64 0),(.int .i64 0)] [(0,1,(t 13))]),I1 15 (.build [.nils,(.int .i64 0),(.int .i64 0)] [(0,3,(t 14))]),I1 16 (.box (t 15)),Im 5 16])
 (Rg ([I1 6 (.alloc [.nils,(.str []),.nils])])
 (.seq (.block 0
 (.loop
 (.seq (Rg ([Im 17 5,In 18 17,If 19 0 18,Ic 20 69 [(t 19),(Ks ([102,97,99,116]))]])
 (.cond (t 20)
 .skip
 (.exit 0)))
 (.block 1
 (.draw 0 [(If 21 0 6,[]),(Il 22 21,[]),(Im 23 5,[]),(Ic 24 70 [(t 23)],[Il 22 21]),(I1 25 (.bslq 4 [(t 24)]),[]),(I1 26 (.app false 4 48 (t 22) (t 25)),[]),(If 27 0 6,[]),(Is 1 27 26,[])])))))
 (Rg ([Im 28 5,In 29 28,If 30 0 29,Ic 31 71 [(t 30),(Ks ([117,115,101]))]])
 (Rg ([Im 32 5,Ic 33 72 [(t 32)],If 34 1 6,Is 1 34 33])
 (Rg ([Im 35 5,In 36 35,If 37 0 36,Ic 38 71 [(t 37),(Ks ([59]))]])
 (.seq (.block 2
 (.loop
 (.seq (Rg ([Im 39 5,In 40 39,If 41 0 40,Ic 42 69 [(t 41),(Ks ([112,111,108,105,99,121]))]])
 (.cond (t 42)
 .skip
 (.exit 2)))
 (.block 3
 (.draw 0 [(If 43 2 6,[]),(Il 44 43,[]),(Im 45 5,[]),(Ic 46 73 [(t 45)],[Il 44 43]),(I1 47 (.bslq 13 [(t 46)]),[]),(I1 48 (.app false 13 208 (t 44) (t 47)),[]),(If 49 2 6,[]),(Is 1 49 48,[])])))))
 (.seq (Rg ([Im 51 5,In 52 51,If 53 0 52,Ic 54 50 [(t 53)],Im 50 54,Ie 55 0 50,Ie 56 1 50,Im 7 55,Im 8 56])
 (Rg ([Im 57 8,I1 58 (.bin .neq (t 57) (Ki 0))])
 (.cond (t 58)
 (Rg ([I1 59 (.build [.nils,(.str []),.nils] []),Im 60 7,Im 61 8,Is 3 2 59,Im 3 60,Im 4 61])
 .ret)
 .skip)))
 (Rg ([Ia 62 3 6,Is 3 2 62,I1 3 (.mv (Ki 0)),I1 4 (.mv (Ki 0))])
 .ret)))))))))))
theorem ZB : Fn Tryz.prog 31 63 [.inr (2,true,3),.inl 3,.inl 4] c31:=aJ Tryz.func31 Tryz.ntmps31 Hq0
def c42 : C :=
 (Rg ([I1 1 (.box (t 0)),I1 2 (.mv (Ki 0))])
 (Rg ([I1 3 (.mv KN),I1 4 (.mv KN)])
 (.seq (Rg ([I1 5 (.mv (Ki 0))])
 (.block 0
 (.loop
 (.seq (Rg ([Im 16 5,If 17 0 1,Il 18 17,Iz 19 18,I1 20 (.bin .lss (t 16) (t 19))])
 (.cond (t 20)
 .skip
 (.exit 0)))
 (.seq (.block 1
 (.draw 0 [(Im 23 3,[]),(If 24 0 1,[]),(Il 25 24,[]),(Im 26 5,[]),(I1 27 (.iaddr 4 (t 25) (t 26)),[]),(If 28 0 27,[]),(Il 29 28,[]),(If 30 0 1,[]),(Il 31 30,[]),(Im 32 5,[]),(I1 33 (.iaddr 4 (t 31) (t 32)),[]),(If 34 1 33,[]),(Il 35 34,[]),(I1 36 (.build [(.str []),(.str [])] [(0,1,(t 29)),(1,1,(t 35))]),[]),(I1 37 (.bslq 2 [(t 36)]),[]),(I1 38 (.app false 2 32 (t 23) (t 37)),[]),(Im 3 38,[])]))
 (.reg [Im 21 5,I1 22 (.bin .add (t 21) (Ki 1)),Im 5 22]))))))
 (Rg ([If 39 1 1,Il 40 39,Ip 41 94 [(t 40)],I1 6 (.mv KF),Im 7 41,I1 8 (.mv (Ki 0))])
 (.seq (Rg ([I1 9 (.mv (Ki 0))])
 (.block 2
 (.loop
 (.seq (Rg ([Im 42 9,If 43 2 1,Il 44 43,Iz 45 44,I1 46 (.bin .lss (t 42) (t 45))])
 (.cond (t 46)
 .skip
 (.exit 2)))
 (.seq (.block 3
 (Rg ([I1 10 (.mv KN)])
 (.seq (Rg ([I1 11 (.mv (Ki 0))])
 (.block 4
 (.loop
 (.seq (Rg ([Im 49 11,If 50 2 1,Il 51 50,Im 52 9,I1 53 (.iaddr 13 (t 51) (t 52)),If 54 12 53,Il 55 54,Iz 56 55,I1 57 (.bin .lss (t 49) (t 56))])
 (.cond (t 57)
 .skip
 (.exit 4)))
 (.seq (.block 5
 (.reg [Im 60 10,If 61 2 1,Il 62 61,Im 63 9,I1 64 (.iaddr 13 (t 62) (t 63)),If 65 12 64,Il 66 65,Im 67 11,I1 68 (.iaddr 13 (t 66) (t 67)),If 69 1 68,Il 70 69,I1 71 (.build [(.str []),(.str [])] [(0,1,(t 70))]),I1 72 (.bsl 2 [(t 71)]),I1 73 (.app false 2 32 (t 60) (t 72)),Im 10 73]))
 (.reg [Im 58 11,I1 59 (.bin .add (t 58) (Ki 1)),Im 11 59]))))))
 (Rg ([Im 74 4,If 75 2 1,Il 76 75,Im 77 9,I1 78 (.iaddr 13 (t 76) (t 77)),If 79 0 78,Il 80 79,I1 81 (.build [(.str []),(.str [])] [(0,1,(t 80))]),I1 82 (.bsl 2 [(t 81)]),I1 83 (.app false 2 32 (t 74) (t 82)),Im 4 83])
 (Rg ([Im 84 6,Im 85 84,Jm 86 85 false 10,I3 87 85 (.pcall (Kf 95) [(t 86)]),I1 88 (.pick (t 85) KT (t 87)),Im 6 88])
 (Rg ([Im 89 7,Im 90 89,Jf 91 90 true 2 1,Jl 92 90 true 91,Jm 93 90 true 9,I2 94 90 (.iaddr 13 (t 92) (t 93)),Jf 95 90 true 2 94,Jl 96 90 true 95,I2 97 90 (.pcall (Kf 94) [(t 96)]),I1 98 (.pick (t 90) (t 97) KF),Im 7 98])
 (.reg [Im 99 8,Im 100 10,Iz 101 100,I1 102 (.bin .add (t 99) (t 101)),Im 8 102])))))))
 (.reg [Im 47 9,I1 48 (.bin .add (t 47) (Ki 1)),Im 9 48]))))))
 (.seq (Rg ([Im 103 3,Ip 104 95 [(t 103)],Im 105 104,Jm 106 105 false 4,I3 107 105 (.pcall (Kf 95) [(t 106)]),I1 108 (.pick (t 105) KT (t 107)),Im 109 108,Jm 110 109 false 6,I1 111 (.pick (t 109) KT (t 110))])
 (.cond (t 111)
 (Rg ([I1 2 (.mv (Ki 9))])
 .ret)
 .skip))
 (.seq (Rg ([Im 112 7,I1 113 (.un .not (t 112))])
 (.cond (t 113)
 (Rg ([I1 2 (.mv (Ki 8))])
 .ret)
 .skip))
 (.seq (Rg ([Im 114 8,I1 115 (.bin .gtr (t 114) (Ki 24))])
 (.cond (t 115)
 (Rg ([I1 2 (.mv (Ki 13))])
 .ret)
 .skip))
 (.seq (Rg ([I1 12 (.mv (Ki 0))])
 (.block 6
 (.loop
 (.seq (Rg ([Im 116 12,If 117 2 1,Il 118 117,Iz 119 118,I1 120 (.bin .lss (t 116) (t 119))])
 (.cond (t 120)
 .skip
 (.exit 6)))
 (.seq (.block 7
 (Rg ([If 123 2 1,Il 124 123,Im 125 12,I1 126 (.iaddr 13 (t 124) (t 125)),Ia 127 13 126,I1 13 (.alloc [(.str []),(.str []),(.str []),(.bool false),(.str []),(.int .i64 0),(.int .i64 0),(.str []),.nils,(.str []),(.str []),.nils,.nils]),Is 13 13 127])
 (Rg ([Ia 128 3 1,If 129 3 13,Il 130 129,If 131 4 13,Ia 132 8 131,Ip 133 96 [(t 128),(t 130),(t 132)],Im 14 133])
 (.seq (Rg ([I1 15 (.mv (Ki 0))])
 (.block 8
 (.loop
 (.seq (Rg ([Im 134 15,If 135 12 13,Il 136 135,Iz 137 136,I1 138 (.bin .lss (t 134) (t 137)),Im 139 138,Jm 140 139 true 14,I2 141 139 (.bin .eql (t 140) (Ki 0)),I1 142 (.pick (t 139) (t 141) KF)])
 (.cond (t 142)
 .skip
 (.exit 8)))
 (.seq (.block 9
 (.draw 0 [(Ia 145 3 1,[]),(If 146 12 13,[]),(Il 147 146,[]),(Im 148 15,[]),(I1 149 (.iaddr 13 (t 147) (t 148)),[]),(If 150 2 149,[]),(Il 151 150,[]),(If 152 12 13,[]),(Il 153 152,[]),(Im 154 15,[]),(I1 155 (.iaddr 13 (t 153) (t 154)),[]),(If 156 3 155,[]),(Ia 157 8 156,[]),(Ip 158 96 [(t 145),(t 151),(t 157)],[]),(Im 14 158,[])]))
 (.reg [Im 143 15,I1 144 (.bin .add (t 143) (Ki 1)),Im 15 144]))))))
 (Rg ([Im 159 14,I1 160 (.bin .neq (t 159) (Ki 0))])
 (.cond (t 160)
 (Rg ([Im 161 14,Im 2 161])
 .ret)
 .skip))))))
 (.reg [Im 121 12,I1 122 (.bin .add (t 121) (Ki 1)),Im 12 122]))))))
 (Rg ([I1 2 (.mv (Ki 0))])
 .ret))))))))))
theorem A1G : Fn Tryz.prog 42 162 [.inl 2] c42:=aJ Tryz.func42 Tryz.ntmps42 Hq0
def c49 : C :=
 (Rg ([I1 2 (.alloc [(.str []),(.int .i64 0),(.int .i64 0),(.str []),.nils,(.str []),(.str []),.nils])])
 (Rg ([Im 3 0,Im 4 0,I1 5 (.mkfn 104 [(t 4)] []),I1 6 (.bsl 1 [(Ks ([111,114]))]),Ic 7 103 [(t 3),(t 5),(t 6)],Is 8 2 7])
 .ret))
theorem A1m : Fn Tryz.prog 49 8 [.inr (2,true,8)] c49:=aJ Tryz.func49 Tryz.ntmps49 Hq0
def c50 : C :=
 (Rg ([I1 2 (.mv (Ki 0)),I1 3 (.mv (Ki 0))])
 (.seq (.seq (.draw 0 [(Im 4 0,[]),(In 5 4,[]),(If 6 2 5,[]),(Il 7 6,[]),(I1 8 (.bin .eql (t 7) (Ki 0)),[]),(Im 9 8,[]),(Jm 10 9 true 0,[]),(I2 11 9 (.nilc (t 10)),[]),(Jf 12 9 true 1 11,[]),(Jl 13 9 true 12,[]),(Jm 14 9 true 0,[]),(I2 15 9 (.nilc (t 14)),[]),(Jf 16 9 true 0 15,[]),(Jl 17 9 true 16,[]),(I2 18 9 (.len (t 17)),[]),(I2 19 9 (.bin .lss (t 13) (t 18)),[]),(I1 20 (.pick (t 9) (t 19) KF),[])])
 (.cond (t 20)
 (.reg [Im 21 0,Im 22 0,In 23 22,If 24 1 23,Il 25 24,Ic 26 105 [(t 21),(t 25),(Ki 2)]])
 .skip))
 (.seq (Rg ([Im 27 0,In 28 27,If 29 2 28,Il 30 29,I1 31 (.bin .eql (t 30) (Ki 0))])
 (.cond (t 31)
 (Rg ([I1 2 (.mv (Ki 0)),I1 3 (.mv (Ki 0))])
 .ret)
 .skip))
 (.seq (.draw 0 [(Im 32 0,[]),(In 33 32,[]),(If 34 1 33,[]),(Il 35 34,[]),(Im 36 0,[]),(In 37 36,[]),(If 38 2 37,[]),(Il 39 38,[]),(Im 2 35,[]),(Im 3 39,[])])
 .ret))))
theorem A0p : Fn Tryz.prog 50 40 [.inl 2,.inl 3] c50:=aJ Tryz.func50 Tryz.ntmps50 Hq0
def c96 : C :=
 (Rg ([I1 3 (.box (t 0)),I1 5 (.box (t 2)),I1 6 (.mv (Ki 0))])
 (.seq (Rg ([Im 9 1,I1 10 (.un .not (t 9))])
 (.cond (t 10)
 (Rg ([I1 6 (.mv (Ki 0))])
 .ret)
 .skip))
 (Rg ([If 12 0 3,Il 13 12,Ia 14 8 5,Ip 15 157 [(t 13),(t 14)],Im 11 15,Ie 16 0 11,Ie 17 1 11,Im 7 16,Im 8 17])
 (.seq (Rg ([Im 18 8,I1 19 (.bin .eql (t 18) (Ki 0)),Im 20 19,Jm 21 20 true 7,I2 22 20 (.bin .neq (t 21) (Ki 1)),I1 23 (.pick (t 20) (t 22) KF)])
 (.cond (t 23)
 (Rg ([I1 6 (.mv (Ki 6))])
 .ret)
 .skip))
 (Rg ([Im 24 8,Im 6 24])
 .ret)))))
theorem Zr : Fn Tryz.prog 96 25 [.inl 6] c96:=aJ Tryz.func96 Tryz.ntmps96 Hq0
def c98 : C :=
 (Rg ([I1 0 (.mv KN)])
 (Rg ([I1 1 (.bsl 1 [(Ks ([100,101,110,121,95,111,118,101,114,114,105,100,101,115])),(Ks ([112,101,114,109,105,116,95,111,118,101,114,114,105,100,101,115])),(Ks ([102,105,114,115,116])),(Ks ([111,110,108,121,95,111,110,101])),(Ks ([100,101,110,121,95,117,110,108,101,115,115,95,112,101,114,109,105,116])),(Ks ([112,101,114,109,105,116,95,117,110,108,101,115,115,95,100,101,110,121]))]),Im 0 1])
 .ret))
theorem Zh : Fn Tryz.prog 98 2 [.inl 0] c98:=aJ Tryz.func98 Tryz.ntmps98 Hq0
def X5 : C :=
 (Rg ([I1 4 (.mv KF)])
 (Rg ([Im 6 0,Ip 7 177 [(t 6)],I1 5 (.alloc [(.int .i64 0),(.str []),(.int .i64 0)]),Is 3 5 7])
 (Rg ([If 8 0 5,Il 9 8,I1 10 (.bin .eql (t 9) (Ki 1)),Im 11 10,Jf 12 11 false 0 5,Jl 13 11 false 12,I3 14 11 (.bin .eql (t 13) (Ki 5)),I1 15 (.pick (t 11) KT (t 14)),Im 16 15,Jf 17 16 true 1 5,Jl 18 16 true 17,Jm 19 16 true 1,I2 20 16 (.bin .eql (t 18) (t 19)),I1 21 (.pick (t 16) (t 20) KF),Im 4 21])
 .ret)))
theorem XT : Fn Tryz.prog 117 22 [.inl 4] X5:=aJ Tryz.func117 Tryz.ntmps117 Hq0
def R2 : C :=
 (Rg ([I1 4 (.alloc [(.int .i64 0),(.str []),(.int .i64 0)])])
 (Rg ([Im 6 0,Ip 7 177 [(t 6)],I1 5 (.alloc [(.int .i64 0),(.str []),(.int .i64 0)]),Is 3 5 7])
 (.seq (Rg ([If 8 0 5,Il 9 8,Im 10 1,I1 11 (.bin .neq (t 9) (t 10))])
 (.cond (t 11)
 (Rg ([Im 12 0,Im 13 0,In 14 13,If 15 1 14,Il 16 15,Ic 17 105 [(t 12),(t 16),(Ki 2)]])
 (Rg ([I1 18 (.build [(.int .i64 0),(.str []),(.int .i64 0)] []),Is 3 4 18])
 .ret))
 .skip))
 (Rg ([Im 19 0,In 20 19,If 21 1 20,Il 22 21,I1 23 (.bin .add (t 22) (Ki 1)),In 24 19,If 25 1 24,Is 1 25 23])
 (Rg ([Ia 26 3 5,Is 3 4 26])
 .ret)))))
theorem Tc : Fn Tryz.prog 120 27 [.inr (4,true,3)] R2:=aJ Tryz.func120 Tryz.ntmps120 Hq0
def Jd : C :=
 (Rg ([I1 2 (.alloc [(.bool false),(.str []),(.bool false),(.str []),(.int .i64 0),(.int .i64 0),(.str []),.nils,(.str []),(.str []),.nils,.nils,.nils])])
 (Rg ([Im 4 0,In 5 4,If 6 0 5,I1 7 (.bsl 1 [(Ks ([112,101,114,109,105,116])),(Ks ([100,101,110,121]))]),Ic 8 119 [(t 6),(t 7)],I1 9 (.bin .eql (t 8) (Ks ([112,101,114,109,105,116]))),I1 10 (.build [(.bool false),(.str []),(.bool false),(.str []),(.int .i64 0),(.int .i64 0),(.str []),.nils,(.str []),(.str []),.nils,.nils,.nils] [(0,1,(t 9))]),I1 3 (.alloc [(.bool false),(.str []),(.bool false),(.str []),(.int .i64 0),(.int .i64 0),(.str []),.nils,(.str []),(.str []),.nils,.nils,.nils]),Is 13 3 10])
 (Rg ([Im 11 0,In 12 11,If 13 0 12,Ic 14 121 [(t 13)],If 15 1 3,Is 1 15 14])
 (.seq (Rg ([Im 16 0,In 17 16,If 18 0 17,Ic 19 69 [(t 18),(Ks ([105,102]))],If 20 2 3,Is 1 20 19])
 (Rg ([If 21 2 3,Il 22 21])
 (.cond (t 22)
 (.reg [Im 23 0,Ic 24 122 [(t 23)],If 25 3 3,Is 8 25 24])
 .skip)))
 (.seq (.block 0
 (.loop
 (.seq (Rg ([Im 26 0,In 27 26,If 28 0 27,If 29 2 28,Il 30 29,I1 31 (.bin .eql (t 30) (Ki 0))])
 (.cond (t 31)
 .skip
 (.exit 0)))
 (.block 1
 (.block 2
 (Rg ([Im 38 0,In 39 38,If 40 0 39,Ic 41 69 [(t 40),(Ks ([100,117,116,121]))],Im 37 41])
 (.cond (t 37)
 (.draw 0 [(If 42 11 3,[]),(Il 43 42,[]),(Im 44 0,[]),(In 45 44,[]),(If 46 0 45,[]),(Ic 47 120 [(t 46),(Ki 3)],[Il 43 42]),(I1 48 (.field false 1 1 (t 47)),[]),(I1 49 (.bslq 1 [(t 48)]),[]),(I1 50 (.app false 1 16 (t 43) (t 49)),[]),(If 51 11 3,[]),(Is 1 51 50,[])])
 (Rg ([Im 53 0,In 54 53,If 55 0 54,Ic 56 69 [(t 55),(Ks ([97,100,118,105,99,101]))],Im 52 56])
 (.cond (t 52)
 (.draw 0 [(If 57 12 3,[]),(Il 58 57,[]),(Im 59 0,[]),(In 60 59,[]),(If 61 0 60,[]),(Ic 62 120 [(t 61),(Ki 3)],[Il 58 57]),(I1 63 (.field false 1 1 (t 62)),[]),(I1 64 (.bslq 1 [(t 63)]),[]),(I1 65 (.app false 1 16 (t 58) (t 64)),[]),(If 66 12 3,[]),(Is 1 66 65,[])])
 (Rg ([Im 32 0,In 33 32,If 34 0 33,Ic 35 71 [(t 34),(Ks ([59]))]])
 (Rg ([Ia 36 13 3,Is 13 2 36])
 .ret)))))))))))
 (Rg ([Ia 67 13 3,Is 13 2 67])
 .ret))))))
theorem WT : Fn Tryz.prog 123 68 [.inr (2,true,13)] Jd:=aJ Tryz.func123 Tryz.ntmps123 Hq0
def O7 : C :=
 (Rg ([I1 3 (.box (t 0)),I1 5 (.box (t 2)),I1 6 (.mv (Ki 0))])
 (.seq (Rg ([Im 9 1,I1 10 (.un .not (t 9))])
 (.cond (t 10)
 (Rg ([I1 6 (.mv (Ki 0))])
 .ret)
 .skip))
 (Rg ([If 12 0 3,Il 13 12,Ia 14 8 5,Ip 15 97 [(t 13),(t 14)],Im 11 15,Ie 16 0 11,Ie 17 1 11,Im 7 16,Im 8 17])
 (.seq (Rg ([Im 18 8,I1 19 (.bin .eql (t 18) (Ki 0)),Im 20 19,Jm 21 20 true 7,I2 22 20 (.bin .neq (t 21) (Ki 1)),I1 23 (.pick (t 20) (t 22) KF)])
 (.cond (t 23)
 (.reg [I1 8 (.mv (Ki 6))])
 .skip))
 (Rg ([Im 24 8,Im 6 24])
 .ret)))))
theorem Ty : Fn Tryz.prog 155 25 [.inl 6] O7:=aJ Tryz.func155 Tryz.ntmps155 Hq0
def GA : C :=
 (Rg ([I1 3 (.box (t 1)),I1 4 (.mv (Ki 0)),I1 5 (.mv (Ki 0))])
 (Rg ([If 13 0 3,Il 14 13,Ip 15 193 [(t 14)],Im 6 15])
 (.seq (Rg ([Im 16 6,I1 17 (.bin .lss (t 16) (Ki 0)),Im 18 17,Jf 19 18 false 7 3,Jl 20 18 false 19,I3 21 18 (.len (t 20)),Jm 22 18 false 6,I3 23 18 (.bin .neq (t 21) (t 22)),I1 24 (.pick (t 18) KT (t 23))])
 (.cond (t 24)
 (Rg ([I1 4 (.mv (Ki 0)),I1 5 (.mv (Ki 2))])
 .ret)
 .skip))
 (.seq (Rg ([Im 25 6,I1 26 (.bin .eql (t 25) (Ki 0))])
 (.cond (t 26)
 (Rg ([Im 27 0,Ia 28 8 3,Ip 29 194 [(t 27),(t 28)],Ie 30 0 29,Ie 31 1 29,Im 4 30,Im 5 31])
 .ret)
 .skip))
 (Rg ([I1 32 (.build [(.int .i64 0),(.int .i64 0)] []),I1 7 (.alloc [(.int .i64 0),(.int .i64 0)]),Is 2 7 32])
 (.seq (Rg ([I1 8 (.mv (Ki 0))])
 (.block 0
 (.loop
 (.seq (Rg ([Im 33 8,Im 34 6,I1 35 (.bin .lss (t 33) (t 34))])
 (.cond (t 35)
 .skip
 (.exit 0)))
 (.seq (.block 1
 (Rg ([Im 39 0,If 40 7 3,Il 41 40,Im 42 8,I1 43 (.iaddr 8 (t 41) (t 42)),Ia 44 8 43,Ip 45 157 [(t 39),(t 44)],Im 38 45,Ie 46 0 38,Ie 47 1 38,Im 9 46,Im 10 47])
 (.seq (Rg ([Im 48 10,I1 49 (.bin .neq (t 48) (Ki 0))])
 (.cond (t 49)
 (Rg ([Im 50 10,I1 4 (.mv (Ki 0)),Im 5 50])
 .ret)
 .skip))
 (.reg [Im 51 8,Im 52 9,I1 53 (.iarr 1 2 (t 7) (t 51)),Is 1 53 52]))))
 (.reg [Im 36 8,I1 37 (.bin .add (t 36) (Ki 1)),Im 8 37]))))))
 (Rg ([Ip 54 195 [],Im 11 54])
 (.seq (Rg ([I1 12 (.mv (Ki 0))])
 (.block 2
 (.loop
 (.seq (Rg ([Im 55 12,Im 56 11,Iz 57 56,I1 58 (.bin .lss (t 55) (t 57))])
 (.cond (t 58)
 .skip
 (.exit 2)))
 (.seq (.block 3
 (.seq (.draw 0 [(Im 61 11,[]),(Im 62 12,[]),(I1 63 (.iaddr 4 (t 61) (t 62)),[]),(If 64 0 63,[]),(Il 65 64,[]),(If 66 0 3,[]),(Il 67 66,[]),(I1 68 (.bin .eql (t 65) (t 67)),[]),(Im 69 68,[]),(Jm 70 69 true 11,[]),(Jm 71 69 true 12,[]),(I2 72 69 (.iaddr 4 (t 70) (t 71)),[]),(Jf 73 69 true 1 72,[]),(Jl 74 69 true 73,[]),(I2 75 69 (.iarr 1 2 (t 7) (Ki 0)),[]),(Jl 76 69 true 75,[]),(I2 77 69 (.bin .eql (t 74) (t 76)),[]),(I1 78 (.pick (t 69) (t 77) KF),[]),(Im 79 78,[]),(Jm 80 79 true 11,[]),(Jm 81 79 true 12,[]),(I2 82 79 (.iaddr 4 (t 80) (t 81)),[]),(Jf 83 79 true 2 82,[]),(Jl 84 79 true 83,[]),(I2 85 79 (.iarr 1 2 (t 7) (Ki 1)),[]),(Jl 86 79 true 85,[]),(I2 87 79 (.bin .eql (t 84) (t 86)),[]),(I1 88 (.pick (t 79) (t 87) KF),[])])
 (.cond (t 88)
 (Rg ([Im 89 11,Im 90 12,I1 91 (.iaddr 4 (t 89) (t 90)),If 92 3 91,Il 93 92,Im 4 93,I1 5 (.mv (Ki 0))])
 .ret)
 .skip)))
 (.reg [Im 59 12,I1 60 (.bin .add (t 59) (Ki 1)),Im 12 60]))))))
 (Rg ([I1 4 (.mv (Ki 0)),I1 5 (.mv (Ki 6))])
 .ret)))))))))
theorem UY : Fn Tryz.prog 157 94 [.inl 4,.inl 5] GA:=aJ Tryz.func157 Tryz.ntmps157 Hq0
def WL : C :=
 (Rg ([I1 6 (.mv (Ki 0))])
 (Rg ([I1 7 (.mv KF)])
 (.seq (Rg ([Im 8 0])
 (.block 0
 (.seq (Rg ([I1 21 (.bin .eql (t 8) (Ks ([43]))),Im 20 21])
 (.cond (t 20)
 .skip
 (Rg ([I1 22 (.bin .eql (t 8) (Ks ([45]))),Im 20 22])
 (.cond (t 20)
 .skip
 (.reg [I1 23 (.bin .eql (t 8) (Ks ([42]))),Im 20 23])))))
 (.cond (t 20)
 (Rg ([Im 24 0,Im 25 1,Im 26 2,Ip 27 198 [(t 24),(t 25),(t 26)],Im 6 27])
 .ret)
 (.seq (Rg ([I1 29 (.bin .eql (t 8) (Ks ([97,110,100]))),Im 28 29])
 (.cond (t 28)
 .skip
 (.reg [I1 30 (.bin .eql (t 8) (Ks ([111,114]))),Im 28 30])))
 (.cond (t 28)
 (.reg [Im 31 1,I1 32 (.bin .eql (t 31) (Ki 1)),Im 33 32,Jm 34 33 true 2,I2 35 33 (.bin .eql (t 34) (Ki 1)),I1 36 (.pick (t 33) (t 35) KF),Im 7 36])
 (.seq (Rg ([I1 38 (.bin .eql (t 8) (Ks ([61,61]))),Im 37 38])
 (.cond (t 37)
 .skip
 (.reg [I1 39 (.bin .eql (t 8) (Ks ([33,61]))),Im 37 39])))
 (.cond (t 37)
 (.reg [Im 40 1,Im 41 2,I1 42 (.bin .eql (t 40) (t 41)),Im 7 42])
 (Rg ([I1 44 (.bin .eql (t 8) (Ks ([105,110]))),Im 43 44])
 (.cond (t 43)
 (.reg [Im 45 2,Im 46 1,I1 47 (.bin .add (Ki 10) (t 46)),I1 48 (.bin .eql (t 45) (t 47)),Im 7 48])
 (.reg [Im 9 1,Im 10 2,I1 11 (.bin .eql (t 9) (t 10)),Im 12 11,Jm 13 12 true 1,I2 14 12 (.bin .neq (t 13) (Ki 1)),I1 15 (.pick (t 12) (t 14) KF),Im 16 15,Jm 17 16 true 1,I2 18 16 (.bin .lss (t 17) (Ki 10)),I1 19 (.pick (t 16) (t 18) KF),Im 7 19])))))))))))
 (.seq (Rg ([Im 49 7])
 (.cond (t 49)
 (Rg ([I1 6 (.mv (Ki 1))])
 .ret)
 .skip))
 (Rg ([I1 6 (.mv (Ki 0))])
 .ret)))))
theorem UU : Fn Tryz.prog 161 50 [.inl 6] WL:=aJ Tryz.func161 Tryz.ntmps161 Hq0
def W2 : C :=
 (Rg ([I1 0 (.mv KN)])
 (Rg ([I1 1 (.bsl 1 [(Ks ([123])),(Ks ([125])),(Ks ([40])),(Ks ([41])),(Ks ([91])),(Ks ([93])),(Ks ([59])),(Ks ([46])),(Ks ([44])),(Ks ([43])),(Ks ([45])),(Ks ([42])),(Ks ([60])),(Ks ([62])),(Ks ([61,61])),(Ks ([33,61])),(Ks ([60,61])),(Ks ([62,61]))]),Im 0 1])
 .ret))
theorem U9 : Fn Tryz.prog 173 2 [.inl 0] W2:=aJ Tryz.func173 Tryz.ntmps173 Hq0
def Tb : C :=
 (Rg ([I1 2 (.mv KF)])
 (Rg ([Im 3 0,Im 4 0,I1 5 (.bin .neq (t 3) (t 4)),Im 2 5])
 .ret))
theorem VG : Fn Tryz.prog 175 6 [.inl 2] Tb:=aJ Tryz.func175 Tryz.ntmps175 Hq0
def W7 : C :=
 (Rg ([I1 1 (.box (t 0)),I1 2 (.mv KF)])
 (.seq (Rg ([If 3 3 1,Il 4 3,Iz 5 4,I1 6 (.bin .gtr (t 5) (Ki 0)),Im 7 6,Jf 8 7 false 0 1,Jl 9 7 false 8,I3 10 7 (.bin .neq (t 9) (Ki 3)),Jm 11 7 false 10,Jf 12 11 true 2 1,Jl 13 11 true 12,I2 14 11 (.bin .neq (t 13) (Ks ([]))),I3 15 7 (.pick (t 11) (t 14) KF),I1 16 (.pick (t 7) KT (t 15))])
 (.cond (t 16)
 (Rg ([I1 2 (.mv KF)])
 .ret)
 .skip))
 (.seq (Rg ([If 17 0 1,Il 18 17])
 (.block 0
 (Rg ([I1 20 (.bin .eql (t 18) (Ki 0)),Im 19 20])
 (.cond (t 19)
 (Rg ([If 21 1 1,Il 22 21,I1 23 (.bin .eql (t 22) (Ki 0)),Im 2 23])
 .ret)
 (Rg ([I1 25 (.bin .eql (t 18) (Ki 1)),Im 24 25])
 (.cond (t 24)
 (Rg ([If 26 1 1,Il 27 26,I1 28 (.bin .eql (t 27) (Ki 0)),Im 29 28,Jf 30 29 false 1 1,Jl 31 29 false 30,I3 32 29 (.bin .eql (t 31) (Ki 1)),I1 33 (.pick (t 29) KT (t 32)),Im 2 33])
 .ret)
 (Rg ([I1 35 (.bin .eql (t 18) (Ki 2)),Im 34 35])
 (.cond (t 34)
 (Rg ([I1 2 (.mv KT)])
 .ret)
 (Rg ([I1 37 (.bin .eql (t 18) (Ki 3)),Im 36 37])
 (.cond (t 36)
 (Rg ([If 38 1 1,Il 39 38,I1 40 (.bin .eql (t 39) (Ki 0)),Im 41 40,Jf 42 41 true 2 1,Jl 43 41 true 42,I2 44 41 (.lens (t 43)),I2 45 41 (.bin .leq (t 44) (Ki 64)),I1 46 (.pick (t 41) (t 45) KF),Im 2 46])
 .ret)
 (Rg ([I1 48 (.bin .eql (t 18) (Ki 4)),Im 47 48])
 (.cond (t 47)
 (Rg ([If 49 1 1,Il 50 49,I1 51 (.bin .geq (t 50) (Ki 0)),Im 52 51,Jf 53 52 true 1 1,Jl 54 52 true 53,I2 55 52 (.bin .leq (t 54) (Ki 1099511627776)),I1 56 (.pick (t 52) (t 55) KF),Im 2 56])
 .ret)
 .skip))))))))))))
 (Rg ([I1 2 (.mv KF)])
 .ret))))
theorem TO : Fn Tryz.prog 179 57 [.inl 2] W7:=aJ Tryz.func179 Tryz.ntmps179 Hq0
def XJ : C :=
 (Rg ([I1 1 (.box (t 0)),I1 2 (.alloc [(.str []),(.str [])])])
 (Rg ([If 3 0 1,Il 4 3,If 5 1 1,Il 6 5,I1 7 (.build [(.str []),(.str [])] [(0,1,(t 4)),(1,1,(t 6))]),Is 2 2 7])
 .ret))
theorem XQ : Fn Tryz.prog 188 8 [.inr (2,true,2)] XJ:=aJ Tryz.func188 Tryz.ntmps188 Hq0
def X1 : C :=
 (Rg ([I1 1 (.box (t 0)),I1 2 (.alloc [(.str []),(.str [])])])
 (Rg ([If 3 1 1,Il 4 3,I1 5 (.build [(.str []),(.str [])] [(0,1,(t 4))]),Is 2 2 5])
 .ret))
theorem Uh : Fn Tryz.prog 192 6 [.inr (2,true,2)] X1:=aJ Tryz.func192 Tryz.ntmps192 Hq0
end GP
namespace GP
open Go Go.Proofs
open Rd O
set_option maxRecDepth 100000
def c16 : C :=
 (Rg ([I1 0 (.mv KN)])
 (Rg ([I1 1 (.bsl 1 [(Ks ([102,97,99,116])),(Ks ([116,114,117,116,104])),(Ks ([110,117,109,98,101,114])),(Ks ([116,101,120,116])),(Ks ([116,105,109,101])),(Ks ([98,97,103])),(Ks ([117,115,101])),(Ks ([112,111,108,105,99,121])),(Ks ([98,121])),(Ks ([102,111,114])),(Ks ([112,101,114,109,105,116])),(Ks ([100,101,110,121])),(Ks ([105,102])),(Ks ([100,117,116,121])),(Ks ([97,100,118,105,99,101])),(Ks ([116,114,117,101])),(Ks ([102,97,108,115,101])),(Ks ([110,111,119])),(Ks ([111,114])),(Ks ([97,110,100])),(Ks ([110,111,116])),(Ks ([105,110])),(Ks ([104,97,115])),(Ks ([114,111,108,101])),(Ks ([115,105,122,101])),(Ks ([115,117,98,106,101,99,116])),(Ks ([114,101,115,111,117,114,99,101])),(Ks ([97,99,116,105,111,110])),(Ks ([101,110,118]))]),Im 0 1])
 .ret))
theorem Z7 : Fn Tryz.prog 16 2 [.inl 0] c16:=aJ Tryz.func16 Tryz.ntmps16 Hq0
def c41 : C :=
 (Rg ([I1 2 (.alloc [.nils,(.str []),.nils]),I1 3 (.mv (Ki 0)),I1 4 (.mv (Ki 0))])
 (Rg ([Im 10 0,Ip 11 40 [(t 10)],Im 9 11,Ie 12 0 9,Ie 13 1 9,Ie 14 2 9,Im 5 12,Im 6 13,Im 7 14])
 (.seq (Rg ([Im 15 7,I1 16 (.bin .neq (t 15) (Ki 0))])
 (.cond (t 16)
 (Rg ([I1 17 (.build [.nils,(.str []),.nils] []),Im 18 6,Im 19 7,Is 3 2 17,Im 3 18,Im 4 19])
 .ret)
 .skip))
 (Rg ([Im 21 5,Ip 22 31 [(t 21)],Im 20 22,Ie 23 0 20,Ie 24 1 20,Ie 25 2 20,I1 8 (.alloc [.nils,(.str []),.nils]),Is 3 8 23,Im 6 24,Im 7 25])
 (.seq (Rg ([Im 26 7,I1 27 (.bin .eql (t 26) (Ki 0))])
 (.cond (t 27)
 (.reg [Ia 28 3 8,Ip 29 93 [(t 28)],Im 7 29])
 .skip))
 (.seq (Rg ([Im 30 7,I1 31 (.bin .neq (t 30) (Ki 0))])
 (.cond (t 31)
 (Rg ([I1 32 (.build [.nils,(.str []),.nils] []),Im 33 6,Im 34 7,Is 3 2 32,Im 3 33,Im 4 34])
 .ret)
 .skip))
 (Rg ([Ia 35 3 8,Is 3 2 35,I1 3 (.mv (Ki 0)),I1 4 (.mv (Ki 0))])
 .ret)))))))
theorem Zo : Fn Tryz.prog 41 36 [.inr (2,true,3),.inl 3,.inl 4] c41:=aJ Tryz.func41 Tryz.ntmps41 Hq0
def c54 : C :=
 (Rg ([I1 2 (.box (t 0)),I1 3 (.box (t 1)),I1 4 (.mv KF)])
 (.seq (Rg ([If 8 0 2,Il 9 8,If 10 0 3,Il 11 10,I1 12 (.bin .neq (t 9) (t 11)),Im 13 12,Jf 14 13 false 1 2,Jl 15 13 false 14,Jf 16 13 false 1 3,Jl 17 13 false 16,I3 18 13 (.bin .neq (t 15) (t 17)),I1 19 (.pick (t 13) KT (t 18)),Im 20 19,Jf 21 20 false 2 2,Jl 22 20 false 21,Jf 23 20 false 2 3,Jl 24 20 false 23,I3 25 20 (.bin .neq (t 22) (t 24)),I1 26 (.pick (t 20) KT (t 25)),Im 27 26,Jf 28 27 false 3 2,Jl 29 27 false 28,I3 30 27 (.len (t 29)),Jf 31 27 false 3 3,Jl 32 27 false 31,I3 33 27 (.len (t 32)),I3 34 27 (.bin .neq (t 30) (t 33)),I1 35 (.pick (t 27) KT (t 34))])
 (.cond (t 35)
 (Rg ([I1 4 (.mv KF)])
 .ret)
 .skip))
 (.seq (Rg ([I1 5 (.mv (Ki 0))])
 (.block 0
 (.loop
 (.seq (Rg ([Im 36 5,If 37 3 2,Il 38 37,Iz 39 38,I1 40 (.bin .lss (t 36) (t 39))])
 (.cond (t 40)
 .skip
 (.exit 0)))
 (.seq (.block 1
 (.seq (.draw 2 [(If 43 3 2,[]),(Il 44 43,[]),(Im 45 5,[]),(I1 46 (.iaddr 4 (t 44) (t 45)),[]),(Ia 47 4 46,[]),(If 48 3 3,[]),(Il 49 48,[]),(Im 50 5,[]),(I1 51 (.iaddr 4 (t 49) (t 50)),[]),(Ia 52 4 51,[]),(I1 6 (.rawAt 2 [(.int .i64 0),(.int .i64 0),(.str []),.nils]),[]),(I1 7 (.rawAt 1 [(.int .i64 0),(.int .i64 0),(.str []),.nils]),[]),(I4 (.fillAt 2 4 (t 6) (t 47)),[]),(I4 (.fillAt 1 4 (t 7) (t 52)),[])])
 (Rg ([If 53 0 6,Il 54 53,If 55 0 7,Il 56 55,I1 57 (.bin .neq (t 54) (t 56)),Im 58 57,Jf 59 58 false 1 6,Jl 60 58 false 59,Jf 61 58 false 1 7,Jl 62 58 false 61,I3 63 58 (.bin .neq (t 60) (t 62)),I1 64 (.pick (t 58) KT (t 63)),Im 65 64,Jf 66 65 false 2 6,Jl 67 65 false 66,Jf 68 65 false 2 7,Jl 69 65 false 68,I3 70 65 (.bin .neq (t 67) (t 69)),I1 71 (.pick (t 65) KT (t 70)),Im 72 71,Jf 73 72 false 3 6,Jl 74 72 false 73,I3 75 72 (.len (t 74)),I3 76 72 (.bin .gtr (t 75) (Ki 0)),I1 77 (.pick (t 72) KT (t 76)),Im 78 77,Jf 79 78 false 3 7,Jl 80 78 false 79,I3 81 78 (.len (t 80)),I3 82 78 (.bin .gtr (t 81) (Ki 0)),I1 83 (.pick (t 78) KT (t 82))])
 (.cond (t 83)
 (Rg ([I1 4 (.mv KF)])
 .ret)
 .skip))))
 (.reg [Im 41 5,I1 42 (.bin .add (t 41) (Ki 1)),Im 5 42]))))))
 (Rg ([I1 4 (.mv KT)])
 .ret))))
theorem ZW : Fn Tryz.prog 54 84 [.inl 4] c54:=aJ Tryz.func54 Tryz.ntmps54 Hq0
def c67 : C :=
 (Rg ([I1 2 (.mv KF)])
 (.seq (Rg ([I1 3 (.mv (Ki 0))])
 (.block 0
 (.loop
 (.seq (Rg ([Im 4 3,Im 5 0,Iz 6 5,I1 7 (.bin .lss (t 4) (t 6))])
 (.cond (t 7)
 .skip
 (.exit 0)))
 (.seq (.block 1
 (Rg ([Im 10 0,Im 11 3,I1 12 (.iaddr 1 (t 10) (t 11)),Il 13 12,I1 14 (.build [(.int .i64 0),(.str []),(.int .i64 0)] [(0,1,(Ki 3)),(1,1,(t 13))]),Ip 15 57 [(t 14)],I1 16 (.un .not (t 15))])
 (.cond (t 16)
 (Rg ([I1 2 (.mv KF)])
 .ret)
 .skip)))
 (.reg [Im 8 3,I1 9 (.bin .add (t 8) (Ki 1)),Im 3 9]))))))
 (Rg ([I1 2 (.mv KT)])
 .ret)))
theorem A1H : Fn Tryz.prog 67 17 [.inl 2] c67:=aJ Tryz.func67 Tryz.ntmps67 Hq0
def c70 : C :=
 (Rg ([I1 2 (.alloc [(.str []),(.str []),(.int .i64 0),(.bool false)])])
 (Rg ([I1 3 (.alloc [(.str []),(.str []),(.int .i64 0),(.bool false)])])
 (Rg ([Im 5 0,In 6 5,If 7 0 6,Ic 8 118 [(t 7)],Im 4 8,Ie 9 0 4,Ie 10 1 4,If 11 0 3,Is 1 11 9,If 12 1 3,Is 1 12 10])
 (.seq (Rg ([Im 13 0,In 14 13,If 15 0 14,I1 16 (.bsl 1 [(Ks ([116,114,117,116,104])),(Ks ([110,117,109,98,101,114])),(Ks ([116,101,120,116])),(Ks ([116,105,109,101]))]),Ic 17 119 [(t 15),(t 16)]])
 (.block 0
 (Rg ([I1 19 (.bin .eql (t 17) (Ks ([116,114,117,116,104]))),Im 18 19])
 (.cond (t 18)
 (.reg [If 20 2 3,I4 (.store 1 (t 20) (Ki 1))])
 (Rg ([I1 22 (.bin .eql (t 17) (Ks ([110,117,109,98,101,114]))),Im 21 22])
 (.cond (t 21)
 (.reg [If 23 2 3,I4 (.store 1 (t 23) (Ki 2))])
 (Rg ([I1 25 (.bin .eql (t 17) (Ks ([116,101,120,116]))),Im 24 25])
 (.cond (t 24)
 (.reg [If 26 2 3,I4 (.store 1 (t 26) (Ki 3))])
 (Rg ([I1 28 (.bin .eql (t 17) (Ks ([116,105,109,101]))),Im 27 28])
 (.cond (t 27)
 (.reg [If 29 2 3,I4 (.store 1 (t 29) (Ki 4))])
 .skip))))))))))
 (Rg ([Im 30 0,In 31 30,If 32 0 31,Ic 33 69 [(t 32),(Ks ([98,97,103]))],If 34 3 3,Is 1 34 33])
 (Rg ([Im 35 0,In 36 35,If 37 0 36,Ic 38 71 [(t 37),(Ks ([59]))]])
 (Rg ([Ia 39 4 3,Is 4 2 39])
 .ret)))))))
theorem ZL : Fn Tryz.prog 70 40 [.inr (2,true,4)] c70:=aJ Tryz.func70 Tryz.ntmps70 Hq0
def c92 : C :=
 (Rg ([I1 4 (.alloc [(.int .i64 0),(.str []),(.int .i64 0)]),I1 5 (.mv (Ki 0))])
 (Rg ([Im 16 0,Im 17 1,I1 18 (.idxs (t 16) (t 17)),Im 6 18])
 (.seq (.block 0
 (Rg ([Im 20 6,I1 21 (.bin .geq (t 20) (k (.int .u8 97))),Im 22 21,Jm 23 22 true 6,I2 24 22 (.bin .leq (t 23) (k (.int .u8 122))),I1 25 (.pick (t 22) (t 24) KF),Im 19 25])
 (.cond (t 19)
 (Rg ([Im 26 0,Im 27 1,Ip 28 144 [(t 26),(t 27),(Kf 146)],Im 7 28])
 (.seq (Rg ([Im 29 7,I1 30 (.bin .gtr (t 29) (Ki 64))])
 (.cond (t 30)
 (Rg ([I1 31 (.build [(.int .i64 0),(.str []),(.int .i64 0)] []),Is 3 4 31,I1 5 (.mv (Ki 0))])
 .ret)
 .skip))
 (Rg ([Im 32 0,Im 33 1,Im 34 1,Im 35 7,I1 36 (.bin .add (t 34) (t 35)),I1 37 (.subs (t 32) (some (t 33)) (some (t 36))),I1 38 (.build [(.int .i64 0),(.str []),(.int .i64 0)] [(0,1,(Ki 1)),(1,1,(t 37))]),Im 39 7,Is 3 4 38,Im 5 39])
 .ret)))
 (Rg ([Im 41 6,Ip 42 148 [(t 41)],Im 40 42])
 (.cond (t 40)
 (Rg ([Im 44 0,Im 45 1,Ip 46 149 [(t 44),(t 45),(Ki 9223372036854775807)],Im 43 46,Ie 47 0 43,Ie 48 1 43,Im 8 47,Im 9 48])
 (Rg ([Im 49 8,I1 50 (.build [(.int .i64 0),(.str []),(.int .i64 0)] [(0,1,(Ki 2)),(2,1,(t 49))]),Im 51 9,Is 3 4 50,Im 5 51])
 .ret))
 (Rg ([Im 53 6,I1 54 (.bin .eql (t 53) (k (.int .u8 64))),Im 52 54])
 (.cond (t 52)
 (Rg ([Im 56 0,Im 57 1,I1 58 (.bin .add (t 57) (Ki 1)),Ip 59 149 [(t 56),(t 58),(Ki 1099511627776)],Im 55 59,Ie 60 0 55,Ie 61 1 55,Im 10 60,Im 11 61])
 (.seq (Rg ([Im 62 11,I1 63 (.bin .eql (t 62) (Ki 0))])
 (.cond (t 63)
 (Rg ([I1 64 (.build [(.int .i64 0),(.str []),(.int .i64 0)] []),Is 3 4 64,I1 5 (.mv (Ki 0))])
 .ret)
 .skip))
 (Rg ([Im 65 10,I1 66 (.build [(.int .i64 0),(.str []),(.int .i64 0)] [(0,1,(Ki 4)),(2,1,(t 65))]),Im 67 11,I1 68 (.bin .add (t 67) (Ki 1)),Is 3 4 66,Im 5 68])
 .ret)))
 (Rg ([Im 70 6,I1 71 (.bin .eql (t 70) (k (.int .u8 34))),Im 69 71])
 (.cond (t 69)
 (Rg ([Im 73 0,Im 74 1,Ip 75 150 [(t 73),(t 74)],Im 72 75,Ie 76 0 72,Ie 77 1 72,Im 12 76,Im 13 77])
 (Rg ([Im 78 12,I1 79 (.build [(.int .i64 0),(.str []),(.int .i64 0)] [(0,1,(Ki 3)),(1,1,(t 78))]),Im 80 13,Is 3 4 79,Im 5 80])
 .ret))
 .skip)))))))))
 (.seq (Rg ([Ip 81 151 [],Iz 82 81,I1 83 (.mv (Ki 0))])
 (.block 1
 (.loop
 (Rg ([I1 84 (.bin .lss (t 83) (t 82))])
 (.seq (.cond (t 84)
 .skip
 (.exit 1))
 (.seq (.block 2
 (Rg ([I1 85 (.iaddr 1 (t 81) (t 83)),Il 86 85,Im 15 86])
 (Rg ([Im 87 0,Im 88 1,I1 89 (.subs (t 87) (some (t 88)) none),Im 90 15,Ip 91 152 [(t 89),(t 90)]])
 (.cond (t 91)
 (Rg ([Im 92 15,I1 93 (.build [(.int .i64 0),(.str []),(.int .i64 0)] [(0,1,(Ki 5)),(1,1,(t 92))]),Im 94 15,I1 95 (.lens (t 94)),Is 3 4 93,Im 5 95])
 .ret)
 .skip))))
 (.reg [I1 96 (.bin .add (t 83) (Ki 1)),Im 83 96])))))))
 (Rg ([I1 97 (.build [(.int .i64 0),(.str []),(.int .i64 0)] []),Is 3 4 97,I1 5 (.mv (Ki 0))])
 .ret)))))
theorem A1p : Fn Tryz.prog 92 98 [.inr (4,true,3),.inl 5] c92:=aJ Tryz.func92 Tryz.ntmps92 Hq0
def c93 : C :=
 (Rg ([I1 1 (.box (t 0)),I1 2 (.mv (Ki 0))])
 (.seq (Rg ([Ia 11 3 1,Ip 12 153 [(t 11)],Im 3 12])
 (Rg ([Im 13 3,I1 14 (.bin .neq (t 13) (Ki 0))])
 (.cond (t 14)
 (Rg ([Im 15 3,Im 2 15])
 .ret)
 .skip)))
 (.seq (Rg ([Ia 16 3 1,Ip 17 154 [(t 16)],Im 4 17])
 (Rg ([Im 18 4,I1 19 (.bin .neq (t 18) (Ki 0))])
 (.cond (t 19)
 (Rg ([Im 20 4,Im 2 20])
 .ret)
 .skip)))
 (.seq (Rg ([If 21 2 1,Il 22 21,Iz 23 22,I1 24 (.mv (Ki 0))])
 (.block 0
 (.loop
 (Rg ([I1 25 (.bin .lss (t 24) (t 23))])
 (.seq (.cond (t 25)
 .skip
 (.exit 0))
 (.seq (.block 1
 (Rg ([I1 26 (.iaddr 13 (t 22) (t 24)),Ia 27 13 26,I1 6 (.alloc [(.str []),(.str []),(.str []),(.bool false),(.str []),(.int .i64 0),(.int .i64 0),(.str []),.nils,(.str []),(.str []),.nils,.nils]),Is 13 6 27])
 (.seq (Rg ([Ia 28 3 1,If 29 3 6,Il 30 29,If 31 4 6,Ia 32 8 31,Ip 33 155 [(t 28),(t 30),(t 32)],Im 7 33])
 (Rg ([Im 34 7,I1 35 (.bin .neq (t 34) (Ki 0))])
 (.cond (t 35)
 (Rg ([Im 36 7,Im 2 36])
 .ret)
 .skip)))
 (Rg ([If 37 12 6,Il 38 37,Iz 39 38,I1 40 (.mv (Ki 0))])
 (.block 2
 (.loop
 (Rg ([I1 41 (.bin .lss (t 40) (t 39))])
 (.seq (.cond (t 41)
 .skip
 (.exit 2))
 (.seq (.block 3
 (Rg ([I1 42 (.iaddr 13 (t 38) (t 40)),Ia 43 13 42,I1 9 (.alloc [(.bool false),(.str []),(.bool false),(.str []),(.int .i64 0),(.int .i64 0),(.str []),.nils,(.str []),(.str []),.nils,.nils,.nils]),Is 13 9 43])
 (Rg ([Ia 44 3 1,If 45 2 9,Il 46 45,If 47 3 9,Ia 48 8 47,Ip 49 155 [(t 44),(t 46),(t 48)],Im 10 49])
 (Rg ([Im 50 10,I1 51 (.bin .neq (t 50) (Ki 0))])
 (.cond (t 51)
 (Rg ([Im 52 10,Im 2 52])
 .ret)
 .skip)))))
 (.reg [I1 53 (.bin .add (t 40) (Ki 1)),Im 40 53]))))))))))
 (.reg [I1 54 (.bin .add (t 24) (Ki 1)),Im 24 54])))))))
 (Rg ([I1 2 (.mv (Ki 0))])
 .ret)))))
theorem A1F : Fn Tryz.prog 93 55 [.inl 2] c93:=aJ Tryz.func93 Tryz.ntmps93 Hq0
def Hr : C :=
 (Rg ([I1 2 (.alloc [(.int .i64 0),(.str []),(.int .i64 0)]),I1 3 (.mv KF)])
 (.seq (Rg ([Im 8 0,I1 9 (.bin .eql (t 8) (Ks ([])))])
 (.cond (t 9)
 (Rg ([I1 10 (.build [(.int .i64 0),(.str []),(.int .i64 0)] []),Is 3 2 10,I1 3 (.mv KF)])
 .ret)
 .skip))
 (.seq (Rg ([Im 11 0,Ip 12 109 [(t 11)]])
 (.cond (t 12)
 (Rg ([Im 13 0,I1 14 (.build [(.int .i64 0),(.str []),(.int .i64 0)] [(0,1,(Ki 1)),(1,1,(t 13))]),Is 3 2 14,I1 3 (.mv KT)])
 .ret)
 .skip))
 (Rg ([Im 16 0,Ip 17 164 [(t 16),(Ki 9223372036854775807)],Im 15 17,Ie 18 0 15,Ie 19 1 15,Im 4 18,Im 5 19])
 (.seq (Rg ([Im 20 5])
 (.cond (t 20)
 (Rg ([Im 21 4,I1 22 (.build [(.int .i64 0),(.str []),(.int .i64 0)] [(0,1,(Ki 2)),(2,1,(t 21))]),Is 3 2 22,I1 3 (.mv KT)])
 .ret)
 .skip))
 (.seq (Rg ([Im 23 0,I1 24 (.idxs (t 23) (Ki 0)),I1 25 (.bin .eql (t 24) (k (.int .u8 64)))])
 (.cond (t 25)
 (Rg ([Im 27 0,I1 28 (.subs (t 27) (some (Ki 1)) none),Ip 29 164 [(t 28),(Ki 1099511627776)],Im 26 29,Ie 30 0 26,Ie 31 1 26,Im 4 30,Im 5 31])
 (Rg ([Im 32 4,I1 33 (.build [(.int .i64 0),(.str []),(.int .i64 0)] [(0,1,(Ki 4)),(2,1,(t 32))]),Im 34 5,Is 3 2 33,Im 3 34])
 .ret))
 .skip))
 (.seq (Rg ([Im 35 0,I1 36 (.idxs (t 35) (Ki 0)),I1 37 (.bin .eql (t 36) (k (.int .u8 34)))])
 (.cond (t 37)
 (Rg ([Im 39 0,Ip 40 165 [(t 39)],Im 38 40,Ie 41 0 38,Ie 42 1 38,Im 6 41,Im 7 42])
 (Rg ([Im 43 6,I1 44 (.build [(.int .i64 0),(.str []),(.int .i64 0)] [(0,1,(Ki 3)),(1,1,(t 43))]),Im 45 7,Is 3 2 44,Im 3 45])
 .ret))
 .skip))
 (Rg ([Im 46 0,I1 47 (.build [(.int .i64 0),(.str []),(.int .i64 0)] [(0,1,(Ki 5)),(1,1,(t 46))]),Im 48 0,Ip 49 110 [(t 48)],Is 3 2 47,Im 3 49])
 .ret))))))))
theorem Tl : Fn Tryz.prog 100 50 [.inr (2,true,3),.inl 3] Hr:=aJ Tryz.func100 Tryz.ntmps100 Hq0
def Sn : C :=
 (Rg ([I1 2 (.mv (Ks ([]))),I1 3 (.mv (Ks ([])))])
 (Rg ([Im 5 0,I1 6 (.bsl 1 [(Ks ([115,117,98,106,101,99,116])),(Ks ([114,101,115,111,117,114,99,101])),(Ks ([97,99,116,105,111,110])),(Ks ([101,110,118]))]),Ic 7 119 [(t 5),(t 6)],Im 4 7])
 (Rg ([Im 8 0,Ic 9 71 [(t 8),(Ks ([46]))]])
 (Rg ([Im 10 4,Im 11 0,Ic 12 121 [(t 11)],Im 2 10,Im 3 12])
 .ret))))
theorem Xd : Fn Tryz.prog 118 13 [.inl 2,.inl 3] Sn:=aJ Tryz.func118 Tryz.ntmps118 Hq0
def OW : C :=
 (Rg ([I1 2 (.mv (Ks ([])))])
 (.seq (Rg ([Im 4 0,Ip 5 177 [(t 4)],I1 3 (.alloc [(.int .i64 0),(.str []),(.int .i64 0)]),Is 3 3 5])
 (Rg ([If 6 0 3,Il 7 6,I1 8 (.bin .neq (t 7) (Ki 1)),Im 9 8,Jf 10 9 false 1 3,Jl 11 9 false 10,I3 12 9 (.pcall (Kf 17) [(t 11)]),I1 13 (.pick (t 9) KT (t 12))])
 (.cond (t 13)
 (Rg ([Im 14 0,Im 15 0,In 16 15,If 17 1 16,Il 18 17,Ic 19 105 [(t 14),(t 18),(Ki 2)]])
 (Rg ([I1 2 (.mv (Ks ([])))])
 .ret))
 .skip)))
 (Rg ([Im 20 0,Ic 21 120 [(t 20),(Ki 1)],I1 22 (.field false 1 1 (t 21)),Im 2 22])
 .ret)))
theorem UX : Fn Tryz.prog 121 23 [.inl 2] OW:=aJ Tryz.func121 Tryz.ntmps121 Hq0
def OU : C :=
 (Rg ([I1 2 (.alloc [(.str []),(.int .i64 0),(.int .i64 0),(.str []),.nils,(.str []),(.str []),.nils])])
 (Rg ([Im 5 0,In 6 5,If 7 0 6,If 8 1 7,Il 9 8,Im 3 9])
 (Rg ([Im 10 0,In 11 10,If 12 0 11,Ic 13 49 [(t 12)],I1 4 (.alloc [(.str []),(.int .i64 0),(.int .i64 0),(.str []),.nils,(.str []),(.str []),.nils]),Is 8 4 13])
 (.seq (Rg ([Im 14 0,In 15 14,If 16 0 15,If 17 2 16,Il 18 17,I1 19 (.bin .eql (t 18) (Ki 0)),Im 20 19,I2 21 20 (.load true 8 (t 4)),I2 22 20 (.pcall (Kf 26) [(t 21)]),I2 23 20 (.bin .gtr (t 22) (Ki 12)),I1 24 (.pick (t 20) (t 23) KF)])
 (.cond (t 24)
 (.reg [Im 25 0,In 26 25,If 27 0 26,Im 28 3,Ic 29 105 [(t 27),(t 28),(Ki 11)]])
 .skip))
 (Rg ([Ia 30 8 4,Is 8 2 30])
 .ret)))))
theorem Wc : Fn Tryz.prog 122 31 [.inr (2,true,8)] OU:=aJ Tryz.func122 Tryz.ntmps122 Hq0
def TB : C :=
 (Rg ([I1 3 (.box (t 1)),I1 4 (.mv (Ki 0)),I1 5 (.mv (Ki 0))])
 (.seq (Rg ([If 8 0 3,Il 9 8])
 (.block 0
 (Rg ([I1 11 (.bin .eql (t 9) (Ks ([118,97,108,117,101]))),Im 10 11])
 (.cond (t 10)
 (.seq (Rg ([If 12 1 3,Ia 13 4 12,Ip 14 196 [(t 13)],Im 6 14])
 (Rg ([Im 15 6,I1 16 (.bin .neq (t 15) (Ki 0))])
 (.cond (t 16)
 (Rg ([Im 17 6,Im 4 17,I1 5 (.mv (Ki 0))])
 .ret)
 .skip)))
 (Rg ([I1 4 (.mv (Ki 0)),I1 5 (.mv (Ki 2))])
 .ret))
 (Rg ([I1 19 (.bin .eql (t 9) (Ks ([110,111,119]))),Im 18 19])
 (.cond (t 18)
 (Rg ([I1 4 (.mv (Ki 4)),I1 5 (.mv (Ki 0))])
 .ret)
 (Rg ([I1 21 (.bin .eql (t 9) (Ks ([114,111,108,101]))),Im 20 21])
 (.cond (t 20)
 (Rg ([I1 4 (.mv (Ki 1)),I1 5 (.mv (Ki 0))])
 .ret)
 .skip))))))))
 (Rg ([Im 22 0,If 23 5 3,Il 24 23,If 25 6 3,Il 26 25,Ip 27 197 [(t 22),(t 24),(t 26)],Im 7 27])
 (.seq (Rg ([Im 28 7,I1 29 (.bin .eql (t 28) (Ki 0))])
 (.cond (t 29)
 (Rg ([I1 4 (.mv (Ki 0)),I1 5 (.mv (Ki 8))])
 .ret)
 .skip))
 (.seq (Rg ([If 30 0 3,Il 31 30,I1 32 (.bin .eql (t 31) (Ks ([104,97,115])))])
 (.cond (t 32)
 (.reg [I1 7 (.mv (Ki 1))])
 .skip))
 (Rg ([Im 33 7,Im 4 33,I1 5 (.mv (Ki 0))])
 .ret))))))
theorem SY : Fn Tryz.prog 159 34 [.inl 4,.inl 5] TB:=aJ Tryz.func159 Tryz.ntmps159 Hq0
def TH : C :=
 (Rg ([I1 2 (.mv KF)])
 (Rg ([Im 3 0,I1 4 (.bin .geq (t 3) (k (.int .u8 48))),Im 5 4,Jm 6 5 true 0,I2 7 5 (.bin .leq (t 6) (k (.int .u8 57))),I1 8 (.pick (t 5) (t 7) KF),Im 2 8])
 .ret))
theorem Vj : Fn Tryz.prog 163 9 [.inl 2] TH:=aJ Tryz.func163 Tryz.ntmps163 Hq0
def QL : C :=
 (Rg ([I1 2 (.alloc [(.str []),(.int .i64 0),(.int .i64 0),(.str []),.nils,(.str []),(.str []),.nils])])
 (.seq (Rg ([Im 3 0,Ic 4 69 [(t 3),(Ks ([110,111,116]))]])
 (.cond (t 4)
 (Rg ([Im 5 0,Ic 6 170 [(t 5)],I1 7 (.bsl 8 [(t 6)]),I1 8 (.build [(.str []),(.int .i64 0),(.int .i64 0),(.str []),.nils,(.str []),(.str []),.nils] [(0,1,(Ks ([110,111,116]))),(7,1,(t 7))]),Is 8 2 8])
 .ret)
 .skip))
 (Rg ([Im 9 0,Ic 10 202 [(t 9)],Is 8 2 10])
 .ret)))
theorem Sw : Fn Tryz.prog 170 11 [.inr (2,true,8)] QL:=aJ Tryz.func170 Tryz.ntmps170 Hq0
def Wj : C :=
 (Rg ([I1 1 (.box (t 0)),I1 2 (.alloc [(.str []),(.str [])])])
 (Rg ([If 3 0 1,Il 4 3,I1 5 (.build [(.str []),(.str [])] [(0,1,(t 4))]),Is 2 2 5])
 .ret))
theorem Sy : Fn Tryz.prog 190 6 [.inr (2,true,2)] Wj:=aJ Tryz.func190 Tryz.ntmps190 Hq0
def Wn : C :=
 (Rg ([I1 4 (.mv (Ki 0))])
 (.seq (Rg ([Im 5 0,Im 6 1,I1 7 (.bin .lss (t 5) (t 6))])
 (.cond (t 7)
 (Rg ([I1 4 (.mv (k (.int .i64 (-1))))])
 .ret)
 .skip))
 (.seq (Rg ([Im 8 0,Im 9 1,I1 10 (.bin .gtr (t 8) (t 9))])
 (.cond (t 10)
 (Rg ([I1 4 (.mv (Ki 1))])
 .ret)
 .skip))
 (Rg ([I1 4 (.mv (Ki 0))])
 .ret))))
theorem W4 : Fn Tryz.prog 203 11 [.inl 4] Wn:=aJ Tryz.func203 Tryz.ntmps203 Hq0
def V6 : C :=
 (Rg ([I1 2 (.alloc [(.int .i64 0),(.int .i64 0),(.str []),.nils])])
 (.seq (Rg ([Im 3 0])
 (.cond (t 3)
 (Rg ([I1 4 (.build [(.int .i64 0),(.int .i64 0),(.str []),.nils] [(0,1,(Ki 1)),(1,1,(Ki 1))]),Is 4 2 4])
 .ret)
 .skip))
 (Rg ([I1 5 (.build [(.int .i64 0),(.int .i64 0),(.str []),.nils] [(0,1,(Ki 1))]),Is 4 2 5])
 .ret)))
theorem VW : Fn Tryz.prog 244 6 [.inr (2,true,4)] V6:=aJ Tryz.func244 Tryz.ntmps244 Hq0
end GP
namespace GP
open Go Go.Proofs
open Rd O
set_option maxRecDepth 100000
def c20 : C :=
 (Rg ([I1 2 (.box (t 0)),I1 3 (.box (t 1)),I1 4 (.mv KF)])
 (.seq (Rg ([If 6 0 2,Il 7 6,If 8 0 3,Il 9 8,I1 10 (.bin .neq (t 7) (t 9)),Im 11 10,Jf 12 11 false 5 2,Jl 13 11 false 12,Jf 14 11 false 5 3,Jl 15 11 false 14,I3 16 11 (.bin .neq (t 13) (t 15)),I1 17 (.pick (t 11) KT (t 16)),Im 18 17,Jf 19 18 false 6 2,Jl 20 18 false 19,Jf 21 18 false 6 3,Jl 22 18 false 21,I3 23 18 (.bin .neq (t 20) (t 22)),I1 24 (.pick (t 18) KT (t 23)),Im 25 24,I3 26 25 (.load true 8 (t 2)),I3 27 25 (.load true 8 (t 3)),I3 28 25 (.pcall (Kf 51) [(t 26),(t 27)]),I3 29 25 (.un .not (t 28)),I1 30 (.pick (t 25) KT (t 29)),Im 31 30,Jf 32 31 false 7 2,Jl 33 31 false 32,I3 34 31 (.len (t 33)),Jf 35 31 false 7 3,Jl 36 31 false 35,I3 37 31 (.len (t 36)),I3 38 31 (.bin .neq (t 34) (t 37)),I1 39 (.pick (t 31) KT (t 38))])
 (.cond (t 39)
 (Rg ([I1 4 (.mv KF)])
 .ret)
 .skip))
 (.seq (Rg ([I1 5 (.mv (Ki 0))])
 (.block 0
 (.loop
 (.seq (Rg ([Im 40 5,If 41 7 2,Il 42 41,Iz 43 42,I1 44 (.bin .lss (t 40) (t 43))])
 (.cond (t 44)
 .skip
 (.exit 0)))
 (.seq (.block 1
 (.seq (.draw 0 [(If 47 7 2,[]),(Il 48 47,[]),(Im 49 5,[]),(I1 50 (.iaddr 8 (t 48) (t 49)),[]),(Ia 51 8 50,[]),(If 52 7 3,[]),(Il 53 52,[]),(Im 54 5,[]),(I1 55 (.iaddr 8 (t 53) (t 54)),[]),(Ia 56 8 55,[]),(Ip 57 20 [(t 51),(t 56)],[]),(I1 58 (.un .not (t 57)),[])])
 (.cond (t 58)
 (Rg ([I1 4 (.mv KF)])
 .ret)
 .skip)))
 (.reg [Im 45 5,I1 46 (.bin .add (t 45) (Ki 1)),Im 5 46]))))))
 (Rg ([I1 4 (.mv KT)])
 .ret))))
theorem A1y : Fn Tryz.prog 20 59 [.inl 4] c20:=aJ Tryz.func20 Tryz.ntmps20 Hq0
def c40 : C :=
 (Rg ([I1 2 (.mv KN),I1 3 (.mv (Ki 0)),I1 4 (.mv (Ki 0))])
 (.seq (Rg ([Im 9 0,I1 10 (.lens (t 9)),I1 11 (.bin .gtr (t 10) (Ki 4096))])
 (.cond (t 11)
 (Rg ([I1 2 (.mv KN),I1 3 (.mv (Ki 0)),I1 4 (.mv (Ki 3))])
 .ret)
 .skip))
 (Rg ([I1 5 (.mv KN)])
 (.seq (Rg ([Im 12 0,Ip 13 91 [(t 12),(Ki 0)],Im 6 13])
 (.block 0
 (.loop
 (.seq (Rg ([Im 14 6,Im 15 0,I1 16 (.lens (t 15)),I1 17 (.bin .lss (t 14) (t 16))])
 (.cond (t 17)
 .skip
 (.exit 0)))
 (.seq (.block 1
 (Rg ([Im 22 0,Im 23 6,Ip 24 92 [(t 22),(t 23)],Im 21 24,Ie 25 0 21,Ie 26 1 21,I1 7 (.alloc [(.int .i64 0),(.str []),(.int .i64 0)]),Is 3 7 25,Im 8 26])
 (.seq (.block 2
 (Rg ([Im 28 8,I1 29 (.bin .eql (t 28) (Ki 0)),Im 27 29])
 (.cond (t 27)
 (Rg ([Im 30 6,I1 2 (.mv KN),Im 3 30,I1 4 (.mv (Ki 2))])
 .ret)
 (Rg ([Im 32 5,Iz 33 32,I1 34 (.bin .eql (t 33) (Ki 600)),Im 31 34])
 (.cond (t 31)
 (Rg ([Im 35 6,I1 2 (.mv KN),Im 3 35,I1 4 (.mv (Ki 13))])
 .ret)
 .skip)))))
 (Rg ([Im 36 5,Ia 37 3 7,I1 38 (.bsl 3 [(t 37)]),I1 39 (.app false 3 32 (t 36) (t 38)),Im 5 39])
 (.reg [Im 40 6,Im 41 8,I1 42 (.bin .add (t 40) (t 41)),Im 6 42])))))
 (.reg [Im 18 0,Im 19 6,Ip 20 91 [(t 18),(t 19)],Im 6 20]))))))
 (Rg ([Im 43 5,Im 2 43,I1 3 (.mv (Ki 0)),I1 4 (.mv (Ki 0))])
 .ret)))))
theorem A1j : Fn Tryz.prog 40 44 [.inl 2,.inl 3,.inl 4] c40:=aJ Tryz.func40 Tryz.ntmps40 Hq0
def c57 : C :=
 (Rg ([I1 1 (.box (t 0)),I1 2 (.mv KF)])
 (.seq (Rg ([If 4 0 1,Il 5 4])
 (.block 0
 (Rg ([I1 7 (.bin .eql (t 5) (Ki 1)),Im 6 7])
 (.cond (t 6)
 (Rg ([If 8 1 1,Il 9 8,Ip 10 109 [(t 9)],Im 11 10,Jf 12 11 true 2 1,Jl 13 11 true 12,I2 14 11 (.bin .eql (t 13) (Ki 0)),I1 15 (.pick (t 11) (t 14) KF),Im 2 15])
 .ret)
 (Rg ([I1 17 (.bin .eql (t 5) (Ki 2)),Im 16 17])
 (.cond (t 16)
 (Rg ([If 18 1 1,Il 19 18,I1 20 (.bin .eql (t 19) (Ks ([]))),Im 21 20,Jf 22 21 true 2 1,Jl 23 21 true 22,I2 24 21 (.bin .geq (t 23) (Ki 0)),I1 25 (.pick (t 21) (t 24) KF),Im 2 25])
 .ret)
 (Rg ([I1 27 (.bin .eql (t 5) (Ki 3)),Im 26 27])
 (.cond (t 26)
 (.seq (Rg ([I1 3 (.mv (Ki 0))])
 (.block 1
 (.loop
 (.seq (Rg ([Im 28 3,If 29 1 1,Il 30 29,I1 31 (.lens (t 30)),I1 32 (.bin .lss (t 28) (t 31))])
 (.cond (t 32)
 .skip
 (.exit 1)))
 (.seq (.block 2
 (Rg ([If 35 1 1,Il 36 35,Im 37 3,I1 38 (.idxs (t 36) (t 37)),I1 39 (.bin .lss (t 38) (k (.int .u8 32))),Im 40 39,Jf 41 40 false 1 1,Jl 42 40 false 41,Jm 43 40 false 3,I3 44 40 (.idxs (t 42) (t 43)),I3 45 40 (.bin .gtr (t 44) (k (.int .u8 126))),I1 46 (.pick (t 40) KT (t 45))])
 (.cond (t 46)
 (Rg ([I1 2 (.mv KF)])
 .ret)
 .skip)))
 (.reg [Im 33 3,I1 34 (.bin .add (t 33) (Ki 1)),Im 3 34]))))))
 (Rg ([If 47 1 1,Il 48 47,I1 49 (.lens (t 48)),I1 50 (.bin .leq (t 49) (Ki 64)),Im 51 50,Jf 52 51 true 2 1,Jl 53 51 true 52,I2 54 51 (.bin .eql (t 53) (Ki 0)),I1 55 (.pick (t 51) (t 54) KF),Im 2 55])
 .ret))
 (Rg ([I1 57 (.bin .eql (t 5) (Ki 4)),Im 56 57])
 (.cond (t 56)
 (Rg ([If 58 1 1,Il 59 58,I1 60 (.bin .eql (t 59) (Ks ([]))),Im 61 60,Jf 62 61 true 2 1,Jl 63 61 true 62,I2 64 61 (.bin .geq (t 63) (Ki 0)),I1 65 (.pick (t 61) (t 64) KF),Im 66 65,Jf 67 66 true 2 1,Jl 68 66 true 67,I2 69 66 (.bin .leq (t 68) (Ki 1099511627776)),I1 70 (.pick (t 66) (t 69) KF),Im 2 70])
 .ret)
 (Rg ([I1 72 (.bin .eql (t 5) (Ki 5)),Im 71 72])
 (.cond (t 71)
 (Rg ([If 73 1 1,Il 74 73,Ip 75 110 [(t 74)],Im 76 75,Jf 77 76 true 2 1,Jl 78 76 true 77,I2 79 76 (.bin .eql (t 78) (Ki 0)),I1 80 (.pick (t 76) (t 79) KF),Im 2 80])
 .ret)
 .skip))))))))))))
 (Rg ([I1 2 (.mv KF)])
 .ret)))
theorem A1b : Fn Tryz.prog 57 81 [.inl 2] c57:=aJ Tryz.func57 Tryz.ntmps57 Hq0
def c72 : C :=
 (Rg ([I1 2 (.mv (Ks ([])))])
 (Rg ([Im 3 0,In 4 3,If 5 0 4,Ic 6 120 [(t 5),(Ki 1)],I1 7 (.field false 1 1 (t 6)),Im 2 7])
 .ret))
theorem A1f : Fn Tryz.prog 72 8 [.inl 2] c72:=aJ Tryz.func72 Tryz.ntmps72 Hq0
def A0G : C :=
 (Rg ([I1 4 (.mv (Ki 0))])
 (.seq (Rg ([Im 6 0,Iz 7 6,I1 8 (.mv (Ki 0))])
 (.block 0
 (.loop
 (Rg ([I1 9 (.bin .lss (t 8) (t 7))])
 (.seq (.cond (t 9)
 .skip
 (.exit 0))
 (.seq (.block 1
 (Rg ([Im 10 8,Im 5 10])
 (Rg ([Im 11 1,Im 12 0,Im 13 5,I1 14 (.iaddr 1 (t 12) (t 13)),Il 15 14,I1 16 (.bin .eql (t 11) (t 15))])
 (.cond (t 16)
 (Rg ([Im 17 5,Im 4 17])
 .ret)
 .skip))))
 (.reg [I1 18 (.bin .add (t 8) (Ki 1)),Im 8 18])))))))
 (Rg ([I1 4 (.mv (k (.int .i64 (-1))))])
 .ret)))
theorem Uw : Fn Tryz.prog 102 19 [.inl 4] A0G:=aJ Tryz.func102 Tryz.ntmps102 Hq0
def VH : C :=
 (Rg ([I1 2 (.alloc [(.str []),(.int .i64 0),(.int .i64 0),(.str []),.nils,(.str []),(.str []),.nils])])
 (Rg ([Im 3 0,Im 4 0,I1 5 (.mkfn 170 [(t 4)] []),I1 6 (.bsl 1 [(Ks ([97,110,100]))]),Ic 7 103 [(t 3),(t 5),(t 6)],Is 8 2 7])
 .ret))
theorem Sp : Fn Tryz.prog 104 8 [.inr (2,true,8)] VH:=aJ Tryz.func104 Tryz.ntmps104 Hq0
def Qs : C :=
 (Rg ([Im 6 0,In 7 6,If 8 2 7,Il 9 8,I1 10 (.bin .eql (t 9) (Ki 0))])
 (.cond (t 10)
 (.reg [Im 11 0,Im 12 0,Im 13 1,Im 14 2,In 15 11,If 16 1 15,Is 1 16 13,In 17 12,If 18 2 17,Is 1 18 14])
 .skip))
theorem W0 : Fn Tryz.prog 105 19 [] Qs:=aJ Tryz.func105 Tryz.ntmps105 Hq0
def V0 : C :=
 (Rg ([I1 2 (.mv KF)])
 (.seq (Rg ([I1 3 (.mv (Ki 0))])
 (.block 0
 (.loop
 (.seq (Rg ([Im 4 3,Im 5 0,I1 6 (.lens (t 5)),I1 7 (.bin .lss (t 4) (t 6))])
 (.cond (t 7)
 .skip
 (.exit 0)))
 (.seq (.block 1
 (Rg ([Im 10 0,Im 11 3,I1 12 (.idxs (t 10) (t 11)),Ip 13 162 [(t 12)],I1 14 (.un .not (t 13)),Im 15 14,Jm 16 15 true 3,I2 17 15 (.bin .eql (t 16) (Ki 0)),Jm 18 15 true 17,Jm 19 18 false 0,Jm 20 18 false 3,I3 21 18 (.idxs (t 19) (t 20)),I3 22 18 (.pcall (Kf 163) [(t 21)]),I3 23 18 (.un .not (t 22)),Jm 24 18 false 23,Jm 25 24 true 0,Jm 26 24 true 3,I2 27 24 (.idxs (t 25) (t 26)),I2 28 24 (.bin .neq (t 27) (k (.int .u8 95))),I3 29 18 (.pick (t 24) (t 28) KF),I2 30 15 (.pick (t 18) KT (t 29)),I1 31 (.pick (t 15) (t 30) KF)])
 (.cond (t 31)
 (Rg ([I1 2 (.mv KF)])
 .ret)
 .skip)))
 (.reg [Im 8 3,I1 9 (.bin .add (t 8) (Ki 1)),Im 3 9]))))))
 (Rg ([Im 32 0,I1 33 (.lens (t 32)),I1 34 (.bin .gtr (t 33) (Ki 0)),Im 35 34,Jm 36 35 true 0,I2 37 35 (.lens (t 36)),I2 38 35 (.bin .leq (t 37) (Ki 64)),I1 39 (.pick (t 35) (t 38) KF),Im 2 39])
 .ret)))
theorem VK : Fn Tryz.prog 109 40 [.inl 2] V0:=aJ Tryz.func109 Tryz.ntmps109 Hq0
def Ur : C :=
 (Rg ([I1 2 (.mv (Ki 0))])
 (Rg ([I1 3 (.mv (Ki 0))])
 (.seq (Rg ([Im 6 0,Iz 7 6,I1 8 (.mv (Ki 0))])
 (.block 0
 (.loop
 (Rg ([I1 9 (.bin .lss (t 8) (t 7))])
 (.seq (.cond (t 9)
 .skip
 (.exit 0))
 (.seq (.block 1
 (Rg ([I1 10 (.iaddr 1 (t 6) (t 8)),Il 11 10,Im 5 11])
 (Rg ([Im 12 5,Im 13 3,I1 14 (.bin .neq (t 12) (t 13))])
 (.cond (t 14)
 (Rg ([Im 15 5,Im 2 15])
 .ret)
 .skip))))
 (.reg [I1 16 (.bin .add (t 8) (Ki 1)),Im 8 16])))))))
 (Rg ([Im 17 3,Im 2 17])
 .ret))))
theorem UR : Fn Tryz.prog 112 18 [.inl 2] Ur:=aJ Tryz.func112 Tryz.ntmps112 Hq0
def WJ : C :=
 (Rg ([I1 4 (.mv (Ki 0))])
 (Rg ([Im 7 0,Ip 8 175 [(t 7)],Im 5 8])
 (Rg ([Im 9 1,Ip 10 175 [(t 9)],Im 6 10])
 (.seq (Rg ([Im 11 5])
 (.cond (t 11)
 (.seq (Rg ([Im 12 6])
 (.cond (t 12)
 (Rg ([I1 4 (.mv (Ki 0))])
 .ret)
 .skip))
 (Rg ([I1 4 (.mv (k (.int .i64 (-1))))])
 .ret))
 .skip))
 (.seq (Rg ([Im 13 6])
 (.cond (t 13)
 (Rg ([I1 4 (.mv (Ki 1))])
 .ret)
 .skip))
 (.seq (Rg ([Im 14 0,Im 15 1,I1 16 (.bin .lss (t 14) (t 15))])
 (.cond (t 16)
 (Rg ([I1 4 (.mv (k (.int .i64 (-1))))])
 .ret)
 .skip))
 (.seq (Rg ([Im 17 0,Im 18 1,I1 19 (.bin .gtr (t 17) (t 18))])
 (.cond (t 19)
 (Rg ([I1 4 (.mv (Ki 1))])
 .ret)
 .skip))
 (Rg ([I1 4 (.mv (Ki 0))])
 .ret))))))))
theorem Sk : Fn Tryz.prog 114 20 [.inl 4] WJ:=aJ Tryz.func114 Tryz.ntmps114 Hq0
def U6 : C :=
 (Rg ([I1 4 (.mv KF)])
 (Rg ([Im 5 0,Im 6 1,Ip 7 186 [(t 5),(t 6)],Im 4 7])
 .ret))
theorem Wp : Fn Tryz.prog 152 8 [.inl 4] U6:=aJ Tryz.func152 Tryz.ntmps152 Hq0
def RQ : C :=
 (Rg ([I1 4 (.mv KF)])
 (Rg ([Im 5 0,I1 6 (.lens (t 5)),Im 7 1,I1 8 (.lens (t 7)),I1 9 (.bin .geq (t 6) (t 8)),Im 10 9,Jm 11 10 true 0,Jm 12 10 true 1,I2 13 10 (.lens (t 12)),I2 14 10 (.subs (t 11) none (some (t 13))),Jm 15 10 true 1,I2 16 10 (.bin .eql (t 14) (t 15)),I1 17 (.pick (t 10) (t 16) KF),Im 4 17])
 .ret))
theorem Ug : Fn Tryz.prog 186 18 [.inl 4] RQ:=aJ Tryz.func186 Tryz.ntmps186 Hq0
def UH : C :=
 (Rg ([I1 2 (.mv KF)])
 (Rg ([Im 3 0,Ip 4 147 [(t 3)],Im 5 4,Jm 6 5 false 0,I3 7 5 (.pcall (Kf 148) [(t 6)]),I1 8 (.pick (t 5) KT (t 7)),Im 2 8])
 .ret))
theorem Ts : Fn Tryz.prog 199 9 [.inl 2] UH:=aJ Tryz.func199 Tryz.ntmps199 Hq0
end GP
namespace GP
open Go Go.Proofs
open Rd O
set_option maxRecDepth 100000
def c22 : C :=
 (Rg ([I1 1 (.box (t 0)),I1 2 (.mv (Ki 0))])
 (Rg ([I1 3 (.mv (Ki 1))])
 (.seq (Rg ([I1 4 (.mv (Ki 0))])
 (.block 0
 (.loop
 (.seq (Rg ([Im 5 4,If 6 7 1,Il 7 6,Iz 8 7,I1 9 (.bin .lss (t 5) (t 8))])
 (.cond (t 9)
 .skip
 (.exit 0)))
 (.seq (.block 1
 (.reg [Im 12 3,If 13 7 1,Il 14 13,Im 15 4,I1 16 (.iaddr 8 (t 14) (t 15)),Ia 17 8 16,Ip 18 22 [(t 17)],I1 19 (.bin .add (Ki 1) (t 18)),I1 20 (.mx (t 12) (t 19)),Im 3 20]))
 (.reg [Im 10 4,I1 11 (.bin .add (t 10) (Ki 1)),Im 4 11]))))))
 (Rg ([Im 21 3,Im 2 21])
 .ret))))
theorem A1A : Fn Tryz.prog 22 22 [.inl 2] c22:=aJ Tryz.func22 Tryz.ntmps22 Hq0
def c44 : C :=
 (Rg ([I1 2 (.mv KN),I1 3 (.mv (Ki 0)),I1 4 (.mv (Ki 0))])
 (.seq (Rg ([Im 10 0,I1 11 (.lens (t 10)),I1 12 (.bin .gtr (t 11) (Ki 4096))])
 (.cond (t 12)
 (Rg ([I1 2 (.mv KN),I1 3 (.mv (Ki 0)),I1 4 (.mv (Ki 3))])
 .ret)
 .skip))
 (Rg ([I1 5 (.mv KN)])
 (.seq (Rg ([I1 6 (.mv (Ki 0))])
 (.block 0
 (.loop
 (.seq (Rg ([Im 13 6,Im 14 0,I1 15 (.lens (t 14)),I1 16 (.bin .lss (t 13) (t 15))])
 (.cond (t 16)
 .skip
 (.exit 0)))
 (.block 1
 (.seq (Rg ([Im 17 0,Im 18 6,I1 19 (.idxs (t 17) (t 18)),I1 20 (.bin .eql (t 19) (k (.int .u8 32))),Im 21 20,Jm 22 21 false 0,Jm 23 21 false 6,I3 24 21 (.idxs (t 22) (t 23)),I3 25 21 (.bin .eql (t 24) (k (.int .u8 10))),I1 26 (.pick (t 21) KT (t 25))])
 (.cond (t 26)
 (Rg ([Im 27 6,I1 28 (.bin .add (t 27) (Ki 1)),Im 6 28])
 (.exit 1))
 .skip))
 (.seq (Rg ([Im 29 0,Im 30 6,I1 31 (.idxs (t 29) (t 30)),I1 32 (.bin .eql (t 31) (k (.int .u8 35)))])
 (.cond (t 32)
 (.seq (.block 2
 (.loop
 (.seq (Rg ([Im 33 6,Im 34 0,I1 35 (.lens (t 34)),I1 36 (.bin .lss (t 33) (t 35)),Im 37 36,Jm 38 37 true 0,Jm 39 37 true 6,I2 40 37 (.idxs (t 38) (t 39)),I2 41 37 (.bin .neq (t 40) (k (.int .u8 10))),I1 42 (.pick (t 37) (t 41) KF)])
 (.cond (t 42)
 .skip
 (.exit 2)))
 (.block 3
 (.reg [Im 43 6,I1 44 (.bin .add (t 43) (Ki 1)),Im 6 44])))))
 (.exit 1))
 .skip))
 (Rg ([Im 45 0,Im 46 6,I1 47 (.subs (t 45) (some (t 46)) none),Ip 48 99 [(t 47)],Im 7 48])
 (Rg ([Im 50 0,Im 51 6,Im 52 6,Im 53 7,I1 54 (.bin .add (t 52) (t 53)),I1 55 (.subs (t 50) (some (t 51)) (some (t 54))),Ip 56 100 [(t 55)],Im 49 56,Ie 57 0 49,Ie 58 1 49,I1 8 (.alloc [(.int .i64 0),(.str []),(.int .i64 0)]),Is 3 8 57,Im 9 58])
 (.seq (Rg ([Im 59 7,I1 60 (.bin .eql (t 59) (Ki 0)),Im 61 60,Jm 62 61 false 9,I3 63 61 (.un .not (t 62)),I1 64 (.pick (t 61) KT (t 63))])
 (.cond (t 64)
 (Rg ([Im 65 6,I1 2 (.mv KN),Im 3 65,I1 4 (.mv (Ki 2))])
 .ret)
 .skip))
 (.seq (Rg ([Im 66 5,Iz 67 66,I1 68 (.bin .eql (t 67) (Ki 600))])
 (.cond (t 68)
 (Rg ([Im 69 6,I1 2 (.mv KN),Im 3 69,I1 4 (.mv (Ki 13))])
 .ret)
 .skip))
 (Rg ([Im 70 5,Ia 71 3 8,I1 72 (.bsl 3 [(t 71)]),I1 73 (.app false 3 32 (t 70) (t 72)),Im 5 73])
 (.reg [Im 74 6,Im 75 7,I1 76 (.bin .add (t 74) (t 75)),Im 6 76])))))))))))))
 (Rg ([Im 77 5,Im 2 77,I1 3 (.mv (Ki 0)),I1 4 (.mv (Ki 0))])
 .ret)))))
theorem A0S : Fn Tryz.prog 44 78 [.inl 2,.inl 3,.inl 4] c44:=aJ Tryz.func44 Tryz.ntmps44 Hq0
def c47 : C :=
 (Rg ([I1 4 (.mv KF)])
 (Rg ([Im 5 0,Im 6 1,Ip 7 102 [(t 5),(t 6)],I1 8 (.bin .geq (t 7) (Ki 0)),Im 4 8])
 .ret))
theorem ZC : Fn Tryz.prog 47 9 [.inl 4] c47:=aJ Tryz.func47 Tryz.ntmps47 Hq0
def c52 : C :=
 (Rg ([I1 2 (.mv (Ki 0))])
 (Rg ([Ip 5 106 [],Im 3 5])
 (.seq (Rg ([I1 4 (.mv (Ki 0))])
 (.block 0
 (.loop
 (.seq (Rg ([Im 6 4,Im 7 3,Iz 8 7,I1 9 (.bin .lss (t 6) (t 8))])
 (.cond (t 9)
 .skip
 (.exit 0)))
 (.seq (.block 1
 (Rg ([Im 12 3,Im 13 4,I1 14 (.iaddr 1 (t 12) (t 13)),Il 15 14,Im 16 0,Ip 17 62 [(t 15),(t 16)]])
 (.cond (t 17)
 (Rg ([I1 18 (.build [(.int .i64 0),(.int .i64 0),(.int .i64 0),(.int .i64 0),(.int .i64 0)] [(0,1,(Ki 0)),(1,1,(Ki 1)),(2,1,(Ki 3)),(3,1,(Ki 4)),(4,1,(Ki 5))]),Im 19 4,I1 20 (.idxa false 1 5 (t 18) (t 19)),Im 2 20])
 .ret)
 .skip)))
 (.reg [Im 10 4,I1 11 (.bin .add (t 10) (Ki 1)),Im 4 11]))))))
 (.seq (Rg ([Im 21 0,I1 22 (.bin .eql (t 21) (Ks ([110,111,116])))])
 (.cond (t 22)
 (Rg ([I1 2 (.mv (Ki 2))])
 .ret)
 .skip))
 (.seq (Rg ([Im 23 0,I1 24 (.bin .eql (t 23) (Ks ([110,101,103])))])
 (.cond (t 24)
 (Rg ([I1 2 (.mv (Ki 6))])
 .ret)
 .skip))
 (.seq (Rg ([I1 25 (.bsl 1 [(Ks ([118,97,108,117,101])),(Ks ([110,111,119])),(Ks ([97,116,116,114])),(Ks ([104,97,115])),(Ks ([114,111,108,101])),(Ks ([115,105,122,101]))]),Im 26 0,Ip 27 62 [(t 25),(t 26)]])
 (.cond (t 27)
 (Rg ([I1 2 (.mv (Ki 7))])
 .ret)
 .skip))
 (Rg ([I1 2 (.mv (k (.int .i64 (-1))))])
 .ret)))))))
theorem A0E : Fn Tryz.prog 52 28 [.inl 2] c52:=aJ Tryz.func52 Tryz.ntmps52 Hq0
def c53 : C :=
 (Rg ([I1 1 (.box (t 0)),I1 2 (.mv KF)])
 (.seq (Rg ([Ia 4 4 1,Ip 5 107 [(t 4)],I1 6 (.un .not (t 5))])
 (.cond (t 6)
 (Rg ([I1 2 (.mv KF)])
 .ret)
 .skip))
 (.seq (Rg ([If 7 0 1,Il 8 7,I1 9 (.bin .neq (t 8) (Ki 5))])
 (.cond (t 9)
 (Rg ([Ia 10 4 1,Ip 11 108 [(t 10),KF],Im 2 11])
 .ret)
 .skip))
 (.seq (Rg ([I1 3 (.mv (Ki 0))])
 (.block 0
 (.loop
 (.seq (Rg ([Im 12 3,If 13 3 1,Il 14 13,Iz 15 14,I1 16 (.bin .lss (t 12) (t 15))])
 (.cond (t 16)
 .skip
 (.exit 0)))
 (.seq (.block 1
 (Rg ([If 19 3 1,Il 20 19,Im 21 3,I1 22 (.iaddr 4 (t 20) (t 21)),Ia 23 4 22,Ip 24 108 [(t 23),KT],I1 25 (.un .not (t 24))])
 (.cond (t 25)
 (Rg ([I1 2 (.mv KF)])
 .ret)
 .skip)))
 (.reg [Im 17 3,I1 18 (.bin .add (t 17) (Ki 1)),Im 3 18]))))))
 (Rg ([If 26 3 1,Il 27 26,Iz 28 27,I1 29 (.bin .gtr (t 28) (Ki 0)),Im 2 29])
 .ret)))))
theorem A0b : Fn Tryz.prog 53 30 [.inl 2] c53:=aJ Tryz.func53 Tryz.ntmps53 Hq0
def c55 : C :=
 (Rg ([I1 2 (.mv KF)])
 (Rg ([I1 3 (.bsl 1 [(Ks ([115,117,98,106,101,99,116])),(Ks ([114,101,115,111,117,114,99,101])),(Ks ([97,99,116,105,111,110])),(Ks ([101,110,118]))]),Im 4 0,Ip 5 62 [(t 3),(t 4)],Im 2 5])
 .ret))
theorem A0y : Fn Tryz.prog 55 6 [.inl 2] c55:=aJ Tryz.func55 Tryz.ntmps55 Hq0
def c95 : C :=
 (Rg ([I1 2 (.mv KF)])
 (.seq (Rg ([I1 3 (.mv (Ki 0))])
 (.block 0
 (.loop
 (.seq (Rg ([Im 5 3,Im 6 0,Iz 7 6,I1 8 (.bin .lss (t 5) (t 7))])
 (.cond (t 8)
 .skip
 (.exit 0)))
 (.seq (.block 1
 (Rg ([I1 4 (.mv (Ki 0))])
 (.block 2
 (.loop
 (.seq (Rg ([Im 11 4,Im 12 3,I1 13 (.bin .lss (t 11) (t 12))])
 (.cond (t 13)
 .skip
 (.exit 2)))
 (.seq (.block 3
 (.seq (.draw 0 [(Im 16 0,[]),(Im 17 3,[]),(I1 18 (.iaddr 2 (t 16) (t 17)),[]),(Ia 19 2 18,[]),(Im 20 0,[]),(Im 21 4,[]),(I1 22 (.iaddr 2 (t 20) (t 21)),[]),(Ia 23 2 22,[]),(I1 24 (.eqa [.str,.str] false (t 19) (t 23)),[])])
 (.cond (t 24)
 (Rg ([I1 2 (.mv KT)])
 .ret)
 .skip)))
 (.reg [Im 14 4,I1 15 (.bin .add (t 14) (Ki 1)),Im 4 15])))))))
 (.reg [Im 9 3,I1 10 (.bin .add (t 9) (Ki 1)),Im 3 10]))))))
 (Rg ([I1 2 (.mv KF)])
 .ret)))
theorem A05 : Fn Tryz.prog 95 25 [.inl 2] c95:=aJ Tryz.func95 Tryz.ntmps95 Hq0
def c99 : C :=
 (Rg ([I1 2 (.mv (Ki 0))])
 (Rg ([I1 3 (.mv (Ki 1))])
 (.seq (.block 0
 (Rg ([Im 13 0,I1 14 (.idxs (t 13) (Ki 0)),Ip 15 162 [(t 14)],Im 12 15])
 (.cond (t 12)
 (.block 1
 (.loop
 (.seq (Rg ([Im 16 3,Im 17 0,I1 18 (.lens (t 17)),I1 19 (.bin .lss (t 16) (t 18)),Im 20 19,Jm 21 20 true 0,Jm 22 20 true 3,I2 23 20 (.idxs (t 21) (t 22)),I2 24 20 (.pcall (Kf 162) [(t 23)]),Jm 25 20 true 24,Jm 26 25 false 0,Jm 27 25 false 3,I3 28 25 (.idxs (t 26) (t 27)),I3 29 25 (.pcall (Kf 163) [(t 28)]),I2 30 20 (.pick (t 25) KT (t 29)),Jm 31 20 true 30,Jm 32 31 false 0,Jm 33 31 false 3,I3 34 31 (.idxs (t 32) (t 33)),I3 35 31 (.bin .eql (t 34) (k (.int .u8 95))),I2 36 20 (.pick (t 31) KT (t 35)),I1 37 (.pick (t 20) (t 36) KF)])
 (.cond (t 37)
 .skip
 (.exit 1)))
 (.block 2
 (.reg [Im 38 3,I1 39 (.bin .add (t 38) (Ki 1)),Im 3 39])))))
 (Rg ([Im 41 0,I1 42 (.idxs (t 41) (Ki 0)),Ip 43 163 [(t 42)],Im 44 43,Jm 45 44 false 0,I3 46 44 (.idxs (t 45) (Ki 0)),I3 47 44 (.bin .eql (t 46) (k (.int .u8 64))),I1 48 (.pick (t 44) KT (t 47)),Im 40 48])
 (.cond (t 40)
 (.seq (.block 3
 (.loop
 (.seq (Rg ([Im 49 3,Im 50 0,I1 51 (.lens (t 50)),I1 52 (.bin .lss (t 49) (t 51)),Im 53 52,Jm 54 53 true 0,Jm 55 53 true 3,I2 56 53 (.idxs (t 54) (t 55)),I2 57 53 (.pcall (Kf 163) [(t 56)]),I1 58 (.pick (t 53) (t 57) KF)])
 (.cond (t 58)
 .skip
 (.exit 3)))
 (.block 4
 (.reg [Im 59 3,I1 60 (.bin .add (t 59) (Ki 1)),Im 3 60])))))
 (Rg ([Im 61 3,Im 62 0,I1 63 (.lens (t 62)),I1 64 (.bin .lss (t 61) (t 63)),Im 65 64,Jm 66 65 true 0,Jm 67 65 true 3,I2 68 65 (.idxs (t 66) (t 67)),I2 69 65 (.pcall (Kf 162) [(t 68)]),Jm 70 65 true 69,Jm 71 70 false 0,Jm 72 70 false 3,I3 73 70 (.idxs (t 71) (t 72)),I3 74 70 (.bin .eql (t 73) (k (.int .u8 95))),I2 75 65 (.pick (t 70) KT (t 74)),I1 76 (.pick (t 65) (t 75) KF)])
 (.cond (t 76)
 (Rg ([I1 2 (.mv (Ki 0))])
 .ret)
 .skip)))
 (Rg ([Im 78 0,I1 79 (.idxs (t 78) (Ki 0)),I1 80 (.bin .eql (t 79) (k (.int .u8 34))),Im 77 80])
 (.cond (t 77)
 (.seq (.block 5
 (.loop
 (.seq (Rg ([Im 81 3,Im 82 0,I1 83 (.lens (t 82)),I1 84 (.bin .lss (t 81) (t 83)),Im 85 84,Jm 86 85 true 0,Jm 87 85 true 3,I2 88 85 (.idxs (t 86) (t 87)),I2 89 85 (.bin .neq (t 88) (k (.int .u8 34))),I1 90 (.pick (t 85) (t 89) KF)])
 (.cond (t 90)
 .skip
 (.exit 5)))
 (.block 6
 (.seq (Rg ([Im 91 0,Im 92 3,I1 93 (.idxs (t 91) (t 92)),I1 94 (.bin .eql (t 93) (k (.int .u8 92)))])
 (.cond (t 94)
 (.reg [Im 95 3,I1 96 (.bin .add (t 95) (Ki 1)),Im 3 96])
 .skip))
 (.reg [Im 97 3,I1 98 (.bin .add (t 97) (Ki 1)),Im 3 98]))))))
 (.reg [Im 99 3,I1 100 (.bin .add (t 99) (Ki 1)),Im 3 100]))
 (Rg ([Im 4 0,I1 5 (.lens (t 4)),I1 6 (.bin .gtr (t 5) (Ki 1)),Im 7 6,Jm 8 7 true 0,I2 9 7 (.subs (t 8) none (some (Ki 2))),I2 10 7 (.pcall (Kf 110) [(t 9)]),I1 11 (.pick (t 7) (t 10) KF)])
 (.cond (t 11)
 (.reg [I1 3 (.mv (Ki 2))])
 .skip)))))))))
 (.seq (Rg ([Im 101 3,Im 102 0,I1 103 (.lens (t 102)),I1 104 (.bin .gtr (t 101) (t 103))])
 (.cond (t 104)
 (Rg ([I1 2 (.mv (Ki 0))])
 .ret)
 .skip))
 (Rg ([Im 105 3,Im 2 105])
 .ret)))))
theorem A01 : Fn Tryz.prog 99 106 [.inl 2] c99:=aJ Tryz.func99 Tryz.ntmps99 Hq0
def WY : C :=
 (Rg ([I1 1 (.box (t 0)),I1 2 (.mv KF)])
 (.seq (Rg ([If 4 0 1,Il 5 4,I1 6 (.bin .neq (t 5) (Ki 5))])
 (.cond (t 6)
 (Rg ([Ia 7 4 1,Ip 8 171 [(t 7)],Im 2 8])
 .ret)
 .skip))
 (.seq (Rg ([If 9 1 1,Il 10 9,I1 11 (.bin .neq (t 10) (Ki 0)),Im 12 11,Jf 13 12 false 2 1,Jl 14 12 false 13,I3 15 12 (.bin .neq (t 14) (Ks ([]))),I1 16 (.pick (t 12) KT (t 15)),Im 17 16,Jf 18 17 false 3 1,Jl 19 17 false 18,I3 20 17 (.len (t 19)),I3 21 17 (.bin .gtr (t 20) (Ki 16)),I1 22 (.pick (t 17) KT (t 21))])
 (.cond (t 22)
 (Rg ([I1 2 (.mv KF)])
 .ret)
 .skip))
 (.seq (Rg ([I1 3 (.mv (Ki 0))])
 (.block 0
 (.loop
 (.seq (Rg ([Im 23 3,If 24 3 1,Il 25 24,Iz 26 25,I1 27 (.bin .lss (t 23) (t 26))])
 (.cond (t 27)
 .skip
 (.exit 0)))
 (.seq (.block 1
 (.seq (.draw 0 [(If 30 3 1,[]),(Il 31 30,[]),(Im 32 3,[]),(I1 33 (.iaddr 4 (t 31) (t 32)),[]),(Ia 34 4 33,[]),(Ip 35 171 [(t 34)],[]),(I1 36 (.un .not (t 35)),[]),(Im 37 36,[]),(Jf 38 37 false 3 1,[]),(Jl 39 37 false 38,[]),(Jm 40 37 false 3,[]),(I3 41 37 (.iaddr 4 (t 39) (t 40)),[]),(Jf 42 37 false 0 41,[]),(Jl 43 37 false 42,[]),(I3 44 37 (.bin .eql (t 43) (Ki 0)),[]),(I1 45 (.pick (t 37) KT (t 44)),[]),(Im 46 45,[]),(Jf 47 46 false 3 1,[]),(Jl 48 46 false 47,[]),(Jm 49 46 false 3,[]),(I3 50 46 (.iaddr 4 (t 48) (t 49)),[]),(Jf 51 46 false 0 50,[]),(Jl 52 46 false 51,[]),(Jf 53 46 false 3 1,[]),(Jl 54 46 false 53,[]),(I3 55 46 (.iaddr 4 (t 54) (Ki 0)),[]),(Jf 56 46 false 0 55,[]),(Jl 57 46 false 56,[]),(I3 58 46 (.bin .neq (t 52) (t 57)),[]),(I1 59 (.pick (t 46) KT (t 58)),[]),(Im 60 59,[]),(Jm 61 60 false 3,[]),(I3 62 60 (.bin .gtr (t 61) (Ki 0)),[]),(Jm 63 60 false 62,[]),(Jf 64 63 true 3 1,[]),(Jl 65 63 true 64,[]),(Jm 66 63 true 3,[]),(I2 67 63 (.bin .sub (t 66) (Ki 1)),[]),(I2 68 63 (.iaddr 4 (t 65) (t 67)),[]),(I2 69 63 (.load true 4 (t 68)),[]),(Jf 70 63 true 3 1,[]),(Jl 71 63 true 70,[]),(Jm 72 63 true 3,[]),(I2 73 63 (.iaddr 4 (t 71) (t 72)),[]),(I2 74 63 (.load true 4 (t 73)),[]),(I2 75 63 (.pcall (Kf 172) [(t 69),(t 74)]),[]),(I2 76 63 (.bin .geq (t 75) (Ki 0)),[]),(I3 77 60 (.pick (t 63) (t 76) KF),[]),(I1 78 (.pick (t 60) KT (t 77)),[])])
 (.cond (t 78)
 (Rg ([I1 2 (.mv KF)])
 .ret)
 .skip)))
 (.reg [Im 28 3,I1 29 (.bin .add (t 28) (Ki 1)),Im 3 29]))))))
 (Rg ([I1 2 (.mv KT)])
 .ret)))))
theorem Sv : Fn Tryz.prog 107 79 [.inl 2] WY:=aJ Tryz.func107 Tryz.ntmps107 Hq0
def Wh : C :=
 (Rg ([I1 6 (.mv (Ki 0))])
 (Rg ([Im 8 1,Im 7 8])
 (.seq (.block 0
 (.loop
 (.seq (Rg ([Im 9 7,Im 10 0,I1 11 (.lens (t 10)),I1 12 (.bin .lss (t 9) (t 11)),Im 13 12,Jm 14 13 true 2,Jm 15 13 true 0,Jm 16 13 true 7,I2 17 13 (.idxs (t 15) (t 16)),I2 18 13 (.pcall (t 14) [(t 17)]),I1 19 (.pick (t 13) (t 18) KF)])
 (.cond (t 19)
 .skip
 (.exit 0)))
 (.block 1
 (.reg [Im 20 7,I1 21 (.bin .add (t 20) (Ki 1)),Im 7 21])))))
 (Rg ([Im 22 7,Im 23 1,I1 24 (.bin .sub (t 22) (t 23)),Im 6 24])
 .ret))))
theorem Xw : Fn Tryz.prog 144 25 [.inl 6] Wh:=aJ Tryz.func144 Tryz.ntmps144 Hq0
def Tj : C :=
 (Rg ([I1 0 (.mv KN)])
 (Rg ([I1 1 (.bsl 1 [(Ks ([61,61])),(Ks ([33,61])),(Ks ([60,61])),(Ks ([62,61])),(Ks ([123])),(Ks ([125])),(Ks ([40])),(Ks ([41])),(Ks ([91])),(Ks ([93])),(Ks ([59])),(Ks ([46])),(Ks ([44])),(Ks ([43])),(Ks ([45])),(Ks ([42])),(Ks ([60])),(Ks ([62]))]),Im 0 1])
 .ret))
theorem Xr : Fn Tryz.prog 151 2 [.inl 0] Tj:=aJ Tryz.func151 Tryz.ntmps151 Hq0
def QV : C :=
 (Rg ([I1 2 (.mv (Ki 0))])
 (.seq (Rg ([Im 5 0,I1 6 (.bin .eql (t 5) (Ks ([118,97,108,117,101]))),Im 7 6,Jm 8 7 false 0,I3 9 7 (.bin .eql (t 8) (Ks ([110,111,119]))),I1 10 (.pick (t 7) KT (t 9)),Im 11 10,Jm 12 11 false 0,I3 13 11 (.bin .eql (t 12) (Ks ([97,116,116,114]))),I1 14 (.pick (t 11) KT (t 13)),Im 15 14,Jm 16 15 false 0,I3 17 15 (.bin .eql (t 16) (Ks ([104,97,115]))),I1 18 (.pick (t 15) KT (t 17)),Im 19 18,Jm 20 19 false 0,I3 21 19 (.bin .eql (t 20) (Ks ([114,111,108,101]))),I1 22 (.pick (t 19) KT (t 21))])
 (.cond (t 22)
 (Rg ([I1 2 (.mv (Ki 0))])
 .ret)
 .skip))
 (Rg ([Ip 23 195 [],Im 3 23])
 (.seq (Rg ([I1 4 (.mv (Ki 0))])
 (.block 0
 (.loop
 (.seq (Rg ([Im 24 4,Im 25 3,Iz 26 25,I1 27 (.bin .lss (t 24) (t 26))])
 (.cond (t 27)
 .skip
 (.exit 0)))
 (.seq (.block 1
 (.seq (Rg ([Im 30 3,Im 31 4,I1 32 (.iaddr 4 (t 30) (t 31)),If 33 0 32,Il 34 33,Im 35 0,I1 36 (.bin .eql (t 34) (t 35)),Im 37 36,Jm 38 37 true 3,Jm 39 37 true 4,I2 40 37 (.iaddr 4 (t 38) (t 39)),Jf 41 37 true 2 40,Jl 42 37 true 41,I2 43 37 (.bin .gtr (t 42) (Ki 0)),I1 44 (.pick (t 37) (t 43) KF)])
 (.cond (t 44)
 (Rg ([I1 2 (.mv (Ki 2))])
 .ret)
 .skip))
 (Rg ([Im 45 3,Im 46 4,I1 47 (.iaddr 4 (t 45) (t 46)),If 48 0 47,Il 49 48,Im 50 0,I1 51 (.bin .eql (t 49) (t 50))])
 (.cond (t 51)
 (Rg ([I1 2 (.mv (Ki 1))])
 .ret)
 .skip))))
 (.reg [Im 28 4,I1 29 (.bin .add (t 28) (Ki 1)),Im 4 29]))))))
 (Rg ([I1 2 (.mv (k (.int .i64 (-1))))])
 .ret)))))
theorem Th : Fn Tryz.prog 193 52 [.inl 2] QV:=aJ Tryz.func193 Tryz.ntmps193 Hq0
def VU : C :=
 (Rg ([I1 6 (.mv (Ki 0))])
 (Rg ([Im 8 1,I1 9 (.bin .eql (t 8) (Ki 2)),Im 10 9,Jm 11 10 true 2,I2 12 10 (.bin .eql (t 11) (Ki 2)),I1 13 (.pick (t 10) (t 12) KF),Im 7 13])
 (.seq (.block 0
 (Rg ([Im 15 7,Im 14 15])
 (.cond (t 14)
 (Rg ([I1 6 (.mv (Ki 2))])
 .ret)
 (Rg ([Im 17 0,I1 18 (.bin .neq (t 17) (Ks ([42]))),Im 19 18,Jm 20 19 true 1,I2 21 19 (.bin .eql (t 20) (Ki 4)),I1 22 (.pick (t 19) (t 21) KF),Im 23 22,Jm 24 23 true 2,I2 25 23 (.bin .eql (t 24) (Ki 2)),I1 26 (.pick (t 23) (t 25) KF),Im 16 26])
 (.cond (t 16)
 (Rg ([I1 6 (.mv (Ki 4))])
 .ret)
 (Rg ([Im 28 0,I1 29 (.bin .eql (t 28) (Ks ([45]))),Im 30 29,Jm 31 30 true 1,I2 32 30 (.bin .eql (t 31) (Ki 4)),I1 33 (.pick (t 30) (t 32) KF),Im 34 33,Jm 35 34 true 2,I2 36 34 (.bin .eql (t 35) (Ki 4)),I1 37 (.pick (t 34) (t 36) KF),Im 27 37])
 (.cond (t 27)
 (Rg ([I1 6 (.mv (Ki 2))])
 .ret)
 .skip)))))))
 (Rg ([I1 6 (.mv (Ki 0))])
 .ret))))
theorem UP : Fn Tryz.prog 198 38 [.inl 6] VU:=aJ Tryz.func198 Tryz.ntmps198 Hq0
def R0 : C :=
 (Rg ([I1 2 (.alloc [(.str []),(.int .i64 0),(.int .i64 0),(.str []),.nils,(.str []),(.str []),.nils])])
 (.seq (Rg ([Im 3 0,Ic 4 69 [(t 3),(Ks ([45]))]])
 (.cond (t 4)
 (Rg ([Im 5 0,Ic 6 236 [(t 5)],I1 7 (.bsl 8 [(t 6)]),I1 8 (.build [(.str []),(.int .i64 0),(.int .i64 0),(.str []),.nils,(.str []),(.str []),.nils] [(0,1,(Ks ([110,101,103]))),(7,1,(t 7))]),Is 8 2 8])
 .ret)
 .skip))
 (Rg ([Im 9 0,Ic 10 238 [(t 9)],Is 8 2 10])
 .ret)))
theorem So : Fn Tryz.prog 236 11 [.inr (2,true,8)] R0:=aJ Tryz.func236 Tryz.ntmps236 Hq0
def OV : C :=
 (Rg ([I1 2 (.alloc [(.int .i64 0),(.int .i64 0),(.str []),.nils])])
 (.seq (Rg ([Im 5 0,Ic 6 69 [(t 5),(Ks ([45]))]])
 (.cond (t 6)
 (Rg ([Im 7 0,Ic 8 120 [(t 7),(Ki 2)],I1 9 (.field false 2 1 (t 8)),I1 10 (.un .neg (t 9)),Ip 11 242 [(t 10)],Is 4 2 11])
 .ret)
 .skip))
 (Rg ([Im 13 0,Ic 14 239 [(t 13)],Im 12 14,Ie 15 0 12,Ie 16 1 12,I1 3 (.alloc [(.int .i64 0),(.int .i64 0),(.str []),.nils]),Is 4 3 15,Im 4 16])
 (.seq (Rg ([Im 17 4,I1 18 (.un .not (t 17))])
 (.cond (t 18)
 (.reg [Im 19 0,Im 20 0,In 21 20,If 22 1 21,Il 23 22,Ic 24 105 [(t 19),(t 23),(Ki 2)]])
 .skip))
 (Rg ([Ia 25 4 3,Is 4 2 25])
 .ret)))))
theorem XP : Fn Tryz.prog 245 26 [.inr (2,true,4)] OV:=aJ Tryz.func245 Tryz.ntmps245 Hq0
def VO : C :=
 (Rg ([I1 2 (.alloc [(.int .i64 0),(.int .i64 0),(.str []),.nils]),I1 3 (.mv (Ki 0))])
 (.seq (Rg ([Im 9 0,Iz 10 9,I1 11 (.mv (Ki 0))])
 (.block 0
 (.loop
 (Rg ([I1 12 (.bin .lss (t 11) (t 10))])
 (.seq (.cond (t 12)
 .skip
 (.exit 0))
 (.seq (.block 1
 (Rg ([I1 13 (.iaddr 4 (t 9) (t 11)),Ia 14 4 13,I1 5 (.alloc [(.int .i64 0),(.int .i64 0),(.str []),.nils]),Is 4 5 14])
 (Rg ([Ia 15 4 5,Ip 16 129 [(t 15)],I1 17 (.un .not (t 16))])
 (.cond (t 17)
 (Rg ([I1 18 (.build [(.int .i64 0),(.int .i64 0),(.str []),.nils] []),Is 4 2 18,I1 3 (.mv (Ki 1))])
 .ret)
 .skip))))
 (.reg [I1 19 (.bin .add (t 11) (Ki 1)),Im 11 19])))))))
 (.seq (Rg ([Im 20 0,Iz 21 20,I1 22 (.mv (Ki 0))])
 (.block 2
 (.loop
 (Rg ([I1 23 (.bin .lss (t 22) (t 21))])
 (.seq (.cond (t 23)
 .skip
 (.exit 2))
 (.seq (.block 3
 (Rg ([I1 24 (.iaddr 4 (t 20) (t 22)),Ia 25 4 24,I1 7 (.alloc [(.int .i64 0),(.int .i64 0),(.str []),.nils]),Is 4 7 25])
 (.seq (.draw 0 [(If 26 0 7,[]),(Il 27 26,[]),(I1 28 (.bin .eql (t 27) (Ki 0)),[]),(Im 29 28,[]),(Jf 30 29 false 0 7,[]),(Jl 31 29 false 30,[]),(I3 32 29 (.bin .eql (t 31) (Ki 5)),[]),(I1 33 (.pick (t 29) KT (t 32)),[]),(Im 34 33,[]),(Jf 35 34 false 0 7,[]),(Jl 36 34 false 35,[]),(Jm 37 34 false 0,[]),(I3 38 34 (.iaddr 4 (t 37) (Ki 0)),[]),(Jf 39 34 false 0 38,[]),(Jl 40 34 false 39,[]),(I3 41 34 (.bin .neq (t 36) (t 40)),[]),(I1 42 (.pick (t 34) KT (t 41)),[])])
 (.cond (t 42)
 (Rg ([I1 43 (.build [(.int .i64 0),(.int .i64 0),(.str []),.nils] []),Is 4 2 43,I1 3 (.mv (Ki 6))])
 .ret)
 .skip))))
 (.reg [I1 44 (.bin .add (t 22) (Ki 1)),Im 22 44])))))))
 (Rg ([Im 45 0,Ic 46 247 [(t 45)],Im 8 46])
 (Rg ([Im 47 8,Ic 48 248 [(t 47),(Kf 64)]])
 (Rg ([Im 49 8,Ic 50 249 [(t 49),(Kf 250)],Im 8 50])
 (.seq (Rg ([Im 51 8,Iz 52 51,I1 53 (.bin .gtr (t 52) (Ki 16))])
 (.cond (t 53)
 (Rg ([I1 54 (.build [(.int .i64 0),(.int .i64 0),(.str []),.nils] []),Is 4 2 54,I1 3 (.mv (Ki 13))])
 .ret)
 .skip))
 (Rg ([Im 55 8,I1 56 (.build [(.int .i64 0),(.int .i64 0),(.str []),.nils] [(0,1,(Ki 5)),(3,1,(t 55))]),Is 4 2 56,I1 3 (.mv (Ki 0))])
 .ret))))))))
theorem Te : Fn Tryz.prog 246 57 [.inr (2,true,4),.inl 3] VO:=aJ Tryz.func246 Tryz.ntmps246 Hq1
def Xl : C :=
 (Rg ([Im 5 0,Iz 6 5,Im 4 6])
 (.reg [Im 7 0,Im 8 4,Im 9 4,I1 10 (.conv .u64 (t 9)),Ip 11 252 [(t 10)],Im 12 1,Ip 13 251 [(t 7),(Ki 0),(t 8),(t 11),(t 12)]]))
theorem Un : Fn Tryz.prog 248 14 [] Xl:=aJ Tryz.func248 Tryz.ntmps248 Hq0
def V1 : C :=
 (Rg ([I1 2 (.box (t 0)),I1 3 (.box (t 1)),I1 4 (.mv KF)])
 (Rg ([Ia 5 4 2,Ia 6 4 3,Ip 7 64 [(t 5),(t 6)],I1 8 (.bin .eql (t 7) (Ki 0)),Im 4 8])
 .ret))
theorem Vh : Fn Tryz.prog 250 9 [.inl 4] V1:=aJ Tryz.func250 Tryz.ntmps250 Hq0
end GP
