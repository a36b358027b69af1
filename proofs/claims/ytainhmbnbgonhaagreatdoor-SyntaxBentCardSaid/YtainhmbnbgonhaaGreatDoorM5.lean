import Derived.Shelf.SlSortCmp.WholeK
import Derived.Test.YtainhmbnbgonhaaGreatDoorProg
import Derived.Test.YtainhmbnbgonhaaGreatDoorM4
set_option linter.unusedSimpArgs false
namespace GP
open Go Go.Proofs Go.Sort
section
variable {P : Program}
theorem Inv.grownB {b : Bool} {c : Cx} {w w' : World} {H : Hp} (k : Inv c w H) (hb : Below (b,w.heap.size) w w') : Inv c w' H:=by
 have lt : ∀ {a : Addr} {v : Value},w.cell? a = some v -> w'.cell? a = some v:=by
  intro a v h
  have hlt : a.block < w.heap.size:=by
   rcases Nat.lt_or_ge a.block w.heap.size with h' | h'
   ·exact h'
   ·simp [World.cell?,Array.getElem?_eq_none h'] at h
  unfold World.cell? at h ⊢
  rw [hb.block _ hlt];exact h
 refine ⟨fun a v h=>lt (k.keep a v h),Nat.le_trans k.low hb.size,?_,k.free,?_,k.apart,k.map,k.iter,?_,k.tokrow,k.toks⟩
 ·intro o x cs h1 h2
  obtain ⟨vs,rest,e,fr,h,g⟩:=(k.row o x cs h1 h2).hold
  have hlt : c.β o < w.heap.size:=by
   rcases Nat.lt_or_ge (c.β o) w.heap.size with h' | h'
   ·exact h'
   ·rw [Array.getElem?_eq_none h'] at h;cases h
  exact ⟨vs,rest,e,fr,by rw [hb.block _ hlt];exact h,g⟩
 ·intro o x h1 h2
  obtain ⟨a,b,d,e⟩:=k.own o x h1 h2
  exact ⟨a,b,Nat.lt_of_lt_of_le d hb.size,e⟩
 ·intro τ n z h
  obtain ⟨a,b,d,e,f⟩:=k.tok τ n z h
  refine ⟨a,Nat.lt_of_lt_of_le b hb.size,d,e,fun j h1 h2=>?_⟩
  obtain ⟨g1,g2,g3⟩:=f j h1 h2
  have hbl : w'.heap[(c.κ τ).1.block]? = w.heap[(c.κ τ).1.block]?:=hb.block _ b
  refine ⟨?_,?_,g3⟩
  ·rw [<- g1];unfold World.cell?;rw [hbl]
  ·rw [<- g2];unfold World.frozen?;rw [hbl]
def CxT (w : World) : Cx:={ M:=w.cell?,β:=fun _=>0,κ:=fun _=>(⟨0,0,none⟩,0),bd:=fun _=>false,T:=[],bb:=(true,w.heap.size),sz:=fun _=>0 }
theorem invT (w : World) : Inv (CxT w) w [] :=
 ⟨fun _ _ h=>h,Nat.le_refl _,fun o x cs h=>by simp at h,fun _ _=>rfl,fun o x h=>by simp at h,fun o o' x x' h=>by simp at h,fun o es h=>by simp at h,fun o m l h=>by simp at h,fun τ n z h=>by simp [CxT] at h,fun τ n z o x h=>by simp [CxT] at h,fun τ n z τ' n' z' h=>by simp [CxT] at h⟩
theorem below_grow_eq {w w' : World} (h : Below (true,w.heap.size) w w') : ∃ q os,w' = grow (w.drewN q) os:=by
 refine ⟨w'.drawn - w.drawn,w'.heap.extract w.heap.size w'.heap.size,?_⟩
 obtain ⟨h1,h2,h3,h4,h5,h6⟩:=h
 have h6:=h6 rfl
 obtain ⟨heap,tape,drawn,os,output⟩:=w
 obtain ⟨heap',tape',drawn',os',output'⟩:=w'
 simp only at h1 h2 h3 h4 h5 h6
 subst h1;subst h2;subst h3
 simp only [grow,World.drewN,World.mk.injEq,and_true,true_and]
 refine ⟨?_,by omega⟩
 apply Array.ext_getElem?
 intro i
 by_cases hi : i < heap.size
 ·rw [Array.getElem?_append_left hi];exact h5 i hi
 ·rw [Array.getElem?_append_right (by omega),Array.getElem?_extract]
  by_cases hi2 : i < heap'.size
  ·rw [if_pos (by omega)];congr 1;omega
  ·rw [Array.getElem?_eq_none (by omega),if_neg (by omega)]
theorem cell_lt {w : World} {a : Addr} {v : Value} (h : w.cell? a = some v) : a.block < w.heap.size:=by
 rcases Nat.lt_or_ge a.block w.heap.size with h' | h'
 ·exact h'
 ·simp [World.cell?,Array.getElem?_eq_none h'] at h
theorem putCells_set (vs : List Value) : ∀ (w : World) (b off : Nat),putCells w b off vs = w.setCells b off vs:=by
 induction vs with
 | nil=>intros;rfl
 | cons v vs ih=>intro w b off;rw [putCells,ih];rfl
theorem flatK_list {α : Type} [Inhabited α] (enc : α -> List Value) (k : Nat) (hk : ∀ x,(enc x).length = k) (d : Array α) : (flatK enc k d).toList = (d.toList.map enc).flatten:=by
 have hl : (d.toList.map enc).flatten.length = d.size * k:=by
  rw [flat_len (sz:=k) _ (by intro x hx;obtain ⟨y,_,rfl⟩:=List.mem_map.1 hx;exact hk y)];simp
 apply List.ext_getElem?
 intro t
 by_cases ht : t < d.size * k
 ·have k0 : 0 < k := by rcases Nat.eq_zero_or_pos k with h | h; · subst h; simp at ht
                        ·exact h
  have hq : t / k < d.size:=Nat.div_lt_of_lt_mul (by rw [Nat.mul_comm];exact ht)
  have hr : t % k < k:=Nat.mod_lt _ k0
  have e:=get_flatK enc k d t ht
  have e1 : (flatK enc k d).toList[t]? = some (flatK enc k d)[t]!:=by
   rw [getElem!_pos (flatK enc k d) t (by simpa using ht)]
   simp [ht]
  have e2 : (d.toList.map enc).flatten[t / k * k + t % k]? = ((d.toList.map enc)[t / k]'(by simpa using hq))[t % k]? :=
   flat_at _ (t / k) (by simpa using hq) (t % k) (by intro x hx;obtain ⟨y,_,rfl⟩:=List.mem_map.1 hx;exact hk y) hr
  rw [Nat.div_add_mod'] at e2
  rw [e1,e,e2,List.getElem_map]
  have hx : d[t / k]! = d.toList[t / k]'(by simpa using hq):=by rw [getElem!_pos d (t / k) hq];simp
  rw [hx]
  rw [List.getElem?_eq_getElem (by rw [hk];exact hr),getElem!_pos _ _ (by rw [hk];exact hr)]
 ·rw [List.getElem?_eq_none (by simp;omega),List.getElem?_eq_none (by omega)]
theorem chunk_agg {sz : Nat} : ∀ (n : Nat) (cs : List D),∀ x ∈ chunk true sz n cs,∃ l,x = .agg l
 | 0,_,x,h=>by simp [chunk] at h
 | n + 1,cs,x,h=>by
  simp only [chunk,if_true,List.mem_cons] at h
  rcases h with rfl | h
  ·exact ⟨_,rfl⟩
  ·exact chunk_agg n _ x h
theorem put_grown {c : Cx} {w : World} {H : Hp} (k : Inv c w H) {o : Nat} {cs ds : List D} {us : List Value} (ho : H[o]? = some (.row cs)) (kc : Cells c ds us) {off : Nat} (h1 : off + ds.length <= cs.length) (m : Nat) (os : Array Obj) :
  Inv c (grow ((Sort.ahead w m).setCells (c.β o) off us) os) (H.set o (.row (cs.take off ++ ds ++ cs.drop (off + ds.length)))) /\ Below c.bb w (grow ((Sort.ahead w m).setCells (c.β o) off us) os):=by
 have k1 : Inv c (Sort.ahead w m) H:=Inv.congr (w:=w) (w':=Sort.ahead w m) rfl k
 have hf:=row_fits k ho rfl
 obtain ⟨_,g2,g3⟩:=put_inv (P:=default) k1 ho rfl kc (off:=off) (by omega) (by omega)
 rw [putCells_set] at g2 g3
 have hg : ∀ (b : Bool) (x : World),Below (b,x.heap.size) x (grow x os):=fun b x=>⟨rfl,rfl,rfl,by simp,fun i hi=>by simp [grow,Array.getElem?_append_left hi],fun _=>Nat.le_refl _⟩
 refine ⟨g2.grownB (hg false _),?_⟩
 have h0 : Below c.bb w (Sort.ahead w m):=⟨rfl,rfl,rfl,Nat.le_refl _,fun _ _=>rfl,fun _=>Nat.le_add_right _ _⟩
 exact (h0.trans g3).trans (Below.mono (b:=c.bb.1) (hg _ _) g2.low)
variable [inst : HasG P]
theorem sort_snd {ρ : Go.Shelf.Ren} (L : SlLaysF0.n6 P ρ) (k : Nat) (aE : ∀ w,(isAgg (ρ.t 24)).run P w = .ok true w) (zE : ∀ w,(Go.sizeOf (ρ.t 24)).run P w = .ok k w) {f g : FuncId} (hf : ρ.f 6 = f)
  (ef : ∀ args w,(callFunc f args).run P w = .ok (.enter f args) w) (eg : ∀ args w,(callFunc g args).run P w = .ok (.enter g args) w)
  (instB : HasG P) (hB : ∀ c w,@HasG.G P instB c w) {H : Hp} {o off n cap : Nat} {cs : List D} (ho : H[o]? = some (.row cs)) (hn : 0 < n) (hn2 : n < 2 ^ 62) (hlen : off + n * k <= cs.length)
  (cf : D -> D -> Int) (hcl : ∀ x ∈ chunk true k n (cs.drop off),x.cl 0 0 = true)
  (hcmp : ∀ x ∈ chunk true k n (cs.drop off),∀ y ∈ chunk true k n (cs.drop off),@Snd P instB g [x,y] [] [] (fun r _ _=>r = .int .i64 (cf x y)))
  (hirr : ∀ x ∈ chunk true k n (cs.drop off),¬ cf x x < 0)
  (htr : ∀ x ∈ chunk true k n (cs.drop off),∀ y ∈ chunk true k n (cs.drop off),∀ z ∈ chunk true k n (cs.drop off),cf x y < 0 -> cf y z < 0 -> cf x z < 0)
  (hnt : ∀ x ∈ chunk true k n (cs.drop off),∀ y ∈ chunk true k n (cs.drop off),∀ z ∈ chunk true k n (cs.drop off),¬ cf x y < 0 -> ¬ cf y z < 0 -> ¬ cf x z < 0)
  {T : Tk} {Q : Post} (hQ : ∀ ys : List D,ys.Perm (chunk true k n (cs.drop off)) -> ys.Pairwise (fun a b=>¬ cf b a < 0) -> Q (.tup []) (H.set o (.row (cs.take off ++ flatD ys ++ cs.drop (off + n * k)))) T) :
  @Snd P inst f [.ms true k o off n cap,.fn g [] []] H T Q:=by
 intro c w args hg k1 kT kr
 match args,kr.len with
 | [va,vf],_ =>
  have ra:=kr.rep 0 (by simp) (by simp)
  have rf:=kr.rep 1 (by simp) (by simp)
  simp only [List.getElem_cons_zero,List.getElem_cons_succ] at ra rf
  cases ra with
  | ms _ _ _ _ _ _ rc hb g1 g2 g3 =>
  cases rf with
  | fn _ _ _ vp vq hp hq _ _ =>
  match vp,vq,hp,hq with
  | [],[],_,_ =>
  refine .inl ⟨ef _ _,?_⟩
  generalize hxs : chunk true k n (cs.drop off) = xs at *
  have hxl : xs.length = n:=by rw [<- hxs];exact chunk_len ..
  obtain ⟨vs,rest,e,fr,q1,q2,q4,q3⟩:=(k1.row o _ cs ho rfl).hold
  have hvl : vs.length = cs.length:=q2.len
  have hown:=k1.own o _ ho rfl
  have hblk : c.β o < w.heap.size:=hown.2.2.1
  have hcd : Cells c (cs.drop off) (vs.drop off):=⟨by simp [q2.len],fun d hd=>q2.one d (List.mem_of_mem_drop hd),fun i h h'=>by simpa using q2.rep (off + i) (by simp at h;omega) (by simp at h';omega)⟩
  have ke:=chunk_elems (ag:=true) (sz:=k) (.inl rfl) n _ _ hcd (by simp;omega)
  rw [hxs] at ke
  obtain ⟨vss,hvss⟩ : ∃ v,chunkV k n (vs.drop off) = v:=⟨_,rfl⟩
  rw [hvss] at ke
  have hvssl : vss.length = n:=by rw [<- hvss];exact chunkV_len ..
  have hflat : vss.flatten = (vs.drop off).take (n * k):=by rw [<- hvss];exact chunkV_flat ..
  have hvl1 : ∀ v ∈ vss,v.length = k:=ke.sz'
  haveI : Inhabited (Fin n):=⟨⟨0,hn⟩⟩
  let enc : Fin n -> List Value:=fun i=>vss[i.1]'(by rw [hvssl];exact i.2)
  let el : Fin n -> D:=fun i=>xs[i.1]'(by rw [hxl];exact i.2)
  have hel : ∀ i,el i ∈ xs:=fun i=>List.getElem_mem _
  let d : Array (Fin n):=Array.ofFn id
  have hd : d.size = n:=by simp [d]
  have hk : ∀ x,(enc x).length = k:=fun x=>hvl1 _ (List.getElem_mem _)
  have hcells : ∀ i : Fin n,Cells c (el i).cells (enc i):=fun i=>ke.el i.1 (by rw [hxl];exact i.2) (by rw [hvssl];exact i.2)
  have hone : ∀ x,∀ v ∈ enc x,v.oneCell' = true:=fun x=>(hcells x).cell
  have hdE : d.toList.map enc = vss:=by
   apply List.ext_getElem
   ·simp [d,hvssl]
   ·intro i h1 h2
    simp only [d,Array.toList_ofFn,List.getElem_map,List.getElem_ofFn,id,enc]
  have hdX : d.toList.map el = xs:=by
   apply List.ext_getElem
   ·simp [d,hxl]
   ·intro i h1 h2
    simp only [d,Array.toList_ofFn,List.getElem_map,List.getElem_ofFn,id,el]
  have hH : HoldsK enc k w (c.β o) off d:=by
   intro t ht
   have ht' : t < n * k:=by simpa [hd] using ht
   have hlist:=flatK_list enc k hk d
   rw [hdE,hflat] at hlist
   have hg : (flatK enc k d)[t]! = vs[off + t]'(by omega):=by
    have : (flatK enc k d).toList[t]? = some (vs[off + t]'(by omega)):=by
     rw [hlist,List.getElem?_take_of_lt ht',List.getElem?_drop,List.getElem?_eq_getElem]
    rw [getElem!_pos (flatK enc k d) t (by simpa using ht)]
    have h2 : (flatK enc k d).toList[t]? = some ((flatK enc k d)[t]'(by simpa using ht)):=by simp [hd,ht']
    rw [h2] at this;injection this
   rw [hg]
   constructor
   ·simp only [World.cell?,q1]
    simp only [Option.isSome_none,Bool.false_eq_true,if_false,List.getElem?_toArray,id]
    rw [List.getElem?_append_left (by omega),List.getElem?_eq_getElem]
   ·simp only [World.frozen?,q1]
    have:=q3 (off + t) (by omega)
    simpa using this
  have hO : SWO (ltOf fun i j=>cf (el i) (el j)):=by
   refine ⟨fun x=>?_,fun x y z h1 h2=>?_,fun x y z h1 h2=>?_⟩
   ·simp only [ltOf,decide_eq_false_iff_not];exact hirr _ (hel x)
   ·simp only [ltOf,decide_eq_true_eq] at *;exact htr _ (hel x) _ (hel y) _ (hel z) h1 h2
   ·simp only [ltOf,decide_eq_false_iff_not] at *;exact hnt _ (hel x) _ (hel y) _ (hel z) h1 h2
  have hL : CmpLays P g #[] enc k (fun i j=>cf (el i) (el j)) (c.β o) off d.size w:=by
   intro m os dk hdk x y
   generalize hW : sortWorldK enc k w (c.β o) off m dk os = W
   have hM : ∀ a v,c.M a = some v -> W.cell? a = some v:=by
    intro a v ha
    have h0:=k1.keep a v ha
    have hlt:=cell_lt h0
    have hne : a.block ≠ c.β o:=by
     intro e
     obtain ⟨b,i,s⟩:=a
     simp only at e;subst e
     cases s with
     | none=>rw [hown.2.2.2 i] at ha;cases ha
     | some s=>simp [World.cell?,q1] at h0
    rw [<- hW]
    unfold sortWorldK
    rw [cell?_grow _ _ _ (by rw [size_putRowK];exact hlt),cell?_putRowK_other _ _ _ _ _ _ _ hne]
    exact h0
   have rep : ∀ i : Fin n,Rep (CxT W) (el i) (.agg (enc i).toArray):=by
    intro i
    obtain ⟨l,hl⟩ : ∃ l,el i = .agg l:=chunk_agg n (cs.drop off) _ (by rw [hxs];exact hel i)
    have hc:=hcells i
    rw [hl] at hc ⊢
    have r0 : Rep c (.agg l) (.agg (enc i).toArray):=.agg l (enc i) hc.len hc.one hc.rep
    have hcl':=hcl _ (hel i)
    rw [hl] at hcl'
    exact r0.move (n:=0) (m:=0) (c':=CxT W) hM (fun o h=>by omega) (fun o h=>by omega) (fun o h=>by omega) (Nat.zero_le _) (fun τ h=>by omega) hcl'
   have rr : Reps (CxT W) [el x,el y] [.agg (enc x).toArray,.agg (enc y).toArray]:=by
    refine ⟨rfl,fun i h h'=>?_⟩
    match i,h with
    | 0,_=>exact rep x
    | 1,_=>exact rep y
   rcases hcmp _ (hel x) _ (hel y) (CxT W) W _ (hB _ _) (invT W) rfl rr with ⟨_,hc⟩ | ⟨v,w',hc,_⟩
   ·refine hc.mono ?_
    rintro e w' ⟨v,rfl,r,H',T',c',hr,hrep,_,_,_,hbel⟩
    subst hr
    cases hrep
    exact ⟨rfl,below_grow_eq hbel⟩
   ·rw [eg] at hc;cases hc
  have hS:=AnyQ.slices_SortFunc L k aE zE enc hk hone (fun i j=>cf (el i) (el j)) hO g #[] (c.β o) off rc d w eg hL hH hblk (by rw [hd];omega)
  rw [hf,hd] at hS
  refine hS.mono ?_
  rintro e w' ⟨rfl,d',m,os,⟨hs1,_,hs2⟩,hs3,rfl⟩
  have hd's : d'.size = n:=by rw [hs1,hd]
  have hperm : (d'.toList).Perm d.toList:=by
   have e1 : d'.extract 0 n = d':=Array.ext (by simp [hd's]) (fun i h1 h2=>by simp)
   have e2 : d.extract 0 n = d:=Array.ext (by simp [hd]) (fun i h1 h2=>by simp)
   rw [e1,e2] at hs2;exact hs2
  let ys : List D:=d'.toList.map el
  have hys : ys.Perm xs:=by rw [<- hdX];exact hperm.map el
  have hyl : ys.length = n:=by rw [hys.length_eq,hxl]
  have hflatD : flatD ys = (d'.toList.map (fun i=>(el i).cells)).flatten:=by simp [flatD,ys,Function.comp_def]
  have hkc : Cells c (flatD ys) (flatK enc k d').toList:=by
   rw [flatK_list enc k hk]
   have : Elems c k ys (d'.toList.map enc):=by
    refine ⟨by simp [ys],fun i h h'=>?_,fun x hx=>?_⟩
    ·simp only [ys,List.getElem_map];exact hcells _
    ·obtain ⟨i,_,rfl⟩:=List.mem_map.1 hx
     rw [<- (hcells i).len];exact hk i
   exact this.cells
  have hfl : (flatD ys).length = n * k:=by
   have:=hkc.len
   simp [hd's] at this;exact this.symm
  have hw : sortWorldK enc k w (c.β o) off m d' os = grow ((Sort.ahead w m).setCells (c.β o) off (flatK enc k d').toList) os:=by
   unfold sortWorldK
   congr 1
   have hH' : HoldsK enc k (Sort.ahead w m) (c.β o) off d:=holdsK_ahead enc k w m (c.β o) off d hH
   have e0 : Sort.putRow id (Sort.ahead w m) (c.β o) off (flatK enc k d) = Sort.ahead w m:=putRow_self id _ _ _ _ hH'
   have e1:=setCells_putRow (Sort.ahead w m) (c.β o) off (flatK enc k d').toList 0 (flatK enc k d) (by simp [hd's,hd])
   rw [e0,Nat.add_zero] at e1
   rw [e1]
   unfold putRowK
   congr 1
   apply ext_get!
   ·simp [hd's,hd]
   ·intro t ht
    rw [get_setMany _ _ _ _ (by simpa [hd,hd's] using ht),if_pos (by simpa using ht)]
    simp only [Nat.sub_zero]
    rw [getElem!_pos (flatK enc k d').toList t (by simpa using ht),getElem!_pos (flatK enc k d') t (by simpa using ht)]
    simp
  rw [hw]
  obtain ⟨z1,z2⟩:=put_grown k1 ho hkc (off:=off) (by rw [hfl];exact hlen) m os
  rw [hfl] at z1
  refine ⟨_,rfl,.tup [],_,T,c,hQ ys hys ?_,.tup [] [] rfl (fun i h=>absurd h (by simp)),z1,Cx.le.refl c,kT,z2⟩
  rw [List.pairwise_iff_getElem]
  intro i j hi hj hij
  have hi' : i < n:=by rw [<- hyl];exact hi
  have hj' : j < n:=by rw [<- hyl];exact hj
  have:=hs3 i j (Nat.zero_le _) hij hj'
  simp only [ltOf,decide_eq_false_iff_not] at this
  simp only [ys,List.getElem_map]
  rw [getElem!_pos d' j (by omega),getElem!_pos d' i (by omega)] at this
  simpa using this
end
end GP
namespace GP
open Go Go.Proofs
open Rd O
set_option maxRecDepth 100000
def c31 : C :=
 (.seq (.reg [I1 2 (.alloc [.nils,(.str []),.nils]),I1 3 (.mv (Ki 0)),I1 4 (.mv (Ki 0))])
 (.seq (.seq (.reg [Im 9 0,Iz 10 9,I1 11 (.bin .gtr (t 10) (Ki 600))])
 (.cond (t 11)
 (.seq (.reg [I1 12 (.build [.nils,(.str []),.nils] []),Is 3 2 12,I1 3 (.mv (Ki 0)),I1 4 (.mv (Ki 13))])
 .ret)
 .skip))
 (.seq (.reg [Im 13 0,I1 14 (.build [.nils,(.int .i64 0),(.int .i64 0)] [(0,1,(t 13))]),I1 15 (.build [.nils,(.int .i64 0),(.int .i64 0)] [(0,3,(t 14))]),I1 16 (.box (t 15)),Im 5 16])
 (.seq (.reg [I1 6 (.alloc [.nils,(.str []),.nils])])
 (.seq (.block 0
 (.loop
 (.seq (.seq (.reg [Im 17 5,In 18 17,If 19 0 18,Ic 20 69 [(t 19),(Ks ([102,97,99,116]))]])
 (.cond (t 20)
 .skip
 (.exit 0)))
 (.block 1
 (.draw 0 [(If 21 0 6,[]),(Il 22 21,[]),(Im 23 5,[]),(Ic 24 70 [(t 23)],[Il 22 21]),(I1 25 (.bslq 4 [(t 24)]),[]),(I1 26 (.app false 4 48 (t 22) (t 25)),[]),(If 27 0 6,[]),(Is 1 27 26,[])])))))
 (.seq (.reg [Im 28 5,In 29 28,If 30 0 29,Ic 31 71 [(t 30),(Ks ([117,115,101]))]])
 (.seq (.reg [Im 32 5,Ic 33 72 [(t 32)],If 34 1 6,Is 1 34 33])
 (.seq (.reg [Im 35 5,In 36 35,If 37 0 36,Ic 38 71 [(t 37),(Ks ([59]))]])
 (.seq (.block 2
 (.loop
 (.seq (.seq (.reg [Im 39 5,In 40 39,If 41 0 40,Ic 42 69 [(t 41),(Ks ([112,111,108,105,99,121]))]])
 (.cond (t 42)
 .skip
 (.exit 2)))
 (.block 3
 (.draw 0 [(If 43 2 6,[]),(Il 44 43,[]),(Im 45 5,[]),(Ic 46 73 [(t 45)],[Il 44 43]),(I1 47 (.bslq 13 [(t 46)]),[]),(I1 48 (.app false 13 208 (t 44) (t 47)),[]),(If 49 2 6,[]),(Is 1 49 48,[])])))))
 (.seq (.seq (.reg [Im 51 5,In 52 51,If 53 0 52,Ic 54 50 [(t 53)],Im 50 54,Ie 55 0 50,Ie 56 1 50,Im 7 55,Im 8 56])
 (.seq (.reg [Im 57 8,I1 58 (.bin .neq (t 57) (Ki 0))])
 (.cond (t 58)
 (.seq (.reg [I1 59 (.build [.nils,(.str []),.nils] []),Im 60 7,Im 61 8,Is 3 2 59,Im 3 60,Im 4 61])
 .ret)
 .skip)))
 (.seq (.reg [Ia 62 3 6,Is 3 2 62,I1 3 (.mv (Ki 0)),I1 4 (.mv (Ki 0))])
 .ret)))))))))))
theorem fn31 : Fn Tryz.prog 31 63 [.inr (2,true,3),.inl 3,.inl 4] c31:=⟨⟨_,_,Tryz.func31,rfl,by kernel_rfl,Tryz.ntmps31,by kernel_rfl,Hq0,by kernel_rfl⟩⟩
def c49 : C :=
 (.seq (.reg [I1 2 (.alloc [(.str []),(.int .i64 0),(.int .i64 0),(.str []),.nils,(.str []),(.str []),.nils])])
 (.seq (.reg [Im 3 0,Im 4 0,I1 5 (.mkfn 104 [(t 4)] []),I1 6 (.bsl 1 [(Ks ([111,114]))]),Ic 7 103 [(t 3),(t 5),(t 6)],Is 8 2 7])
 .ret))
theorem fn49 : Fn Tryz.prog 49 8 [.inr (2,true,8)] c49:=⟨⟨_,_,Tryz.func49,rfl,by kernel_rfl,Tryz.ntmps49,by kernel_rfl,Hq0,by kernel_rfl⟩⟩
def c50 : C :=
 (.seq (.reg [I1 2 (.mv (Ki 0)),I1 3 (.mv (Ki 0))])
 (.seq (.seq (.draw 0 [(Im 4 0,[]),(In 5 4,[]),(If 6 2 5,[]),(Il 7 6,[]),(I1 8 (.bin .eql (t 7) (Ki 0)),[]),(Im 9 8,[]),(Jm 10 9 true 0,[]),(I2 11 9 (.nilc (t 10)),[]),(Jf 12 9 true 1 11,[]),(Jl 13 9 true 12,[]),(Jm 14 9 true 0,[]),(I2 15 9 (.nilc (t 14)),[]),(Jf 16 9 true 0 15,[]),(Jl 17 9 true 16,[]),(I2 18 9 (.len (t 17)),[]),(I2 19 9 (.bin .lss (t 13) (t 18)),[]),(I1 20 (.pick (t 9) (t 19) KF),[])])
 (.cond (t 20)
 (.reg [Im 21 0,Im 22 0,In 23 22,If 24 1 23,Il 25 24,Ic 26 105 [(t 21),(t 25),(Ki 2)]])
 .skip))
 (.seq (.seq (.reg [Im 27 0,In 28 27,If 29 2 28,Il 30 29,I1 31 (.bin .eql (t 30) (Ki 0))])
 (.cond (t 31)
 (.seq (.reg [I1 2 (.mv (Ki 0)),I1 3 (.mv (Ki 0))])
 .ret)
 .skip))
 (.seq (.draw 0 [(Im 32 0,[]),(In 33 32,[]),(If 34 1 33,[]),(Il 35 34,[]),(Im 36 0,[]),(In 37 36,[]),(If 38 2 37,[]),(Il 39 38,[]),(Im 2 35,[]),(Im 3 39,[])])
 .ret))))
theorem fn50 : Fn Tryz.prog 50 40 [.inl 2,.inl 3] c50:=⟨⟨_,_,Tryz.func50,rfl,by kernel_rfl,Tryz.ntmps50,by kernel_rfl,Hq0,by kernel_rfl⟩⟩
def c117 : C :=
 (.seq (.reg [I1 4 (.mv KF)])
 (.seq (.reg [Im 6 0,Ip 7 177 [(t 6)],I1 5 (.alloc [(.int .i64 0),(.str []),(.int .i64 0)]),Is 3 5 7])
 (.seq (.reg [If 8 0 5,Il 9 8,I1 10 (.bin .eql (t 9) (Ki 1)),Im 11 10,Jf 12 11 false 0 5,Jl 13 11 false 12,I3 14 11 (.bin .eql (t 13) (Ki 5)),I1 15 (.pick (t 11) KT (t 14)),Im 16 15,Jf 17 16 true 1 5,Jl 18 16 true 17,Jm 19 16 true 1,I2 20 16 (.bin .eql (t 18) (t 19)),I1 21 (.pick (t 16) (t 20) KF),Im 4 21])
 .ret)))
theorem fn117 : Fn Tryz.prog 117 22 [.inl 4] c117:=⟨⟨_,_,Tryz.func117,rfl,by kernel_rfl,Tryz.ntmps117,by kernel_rfl,Hq0,by kernel_rfl⟩⟩
def c120 : C :=
 (.seq (.reg [I1 4 (.alloc [(.int .i64 0),(.str []),(.int .i64 0)])])
 (.seq (.reg [Im 6 0,Ip 7 177 [(t 6)],I1 5 (.alloc [(.int .i64 0),(.str []),(.int .i64 0)]),Is 3 5 7])
 (.seq (.seq (.reg [If 8 0 5,Il 9 8,Im 10 1,I1 11 (.bin .neq (t 9) (t 10))])
 (.cond (t 11)
 (.seq (.reg [Im 12 0,Im 13 0,In 14 13,If 15 1 14,Il 16 15,Ic 17 105 [(t 12),(t 16),(Ki 2)]])
 (.seq (.reg [I1 18 (.build [(.int .i64 0),(.str []),(.int .i64 0)] []),Is 3 4 18])
 .ret))
 .skip))
 (.seq (.reg [Im 19 0,In 20 19,If 21 1 20,Il 22 21,I1 23 (.bin .add (t 22) (Ki 1)),In 24 19,If 25 1 24,Is 1 25 23])
 (.seq (.reg [Ia 26 3 5,Is 3 4 26])
 .ret)))))
theorem fn120 : Fn Tryz.prog 120 27 [.inr (4,true,3)] c120:=⟨⟨_,_,Tryz.func120,rfl,by kernel_rfl,Tryz.ntmps120,by kernel_rfl,Hq0,by kernel_rfl⟩⟩
def c123 : C :=
 (.seq (.reg [I1 2 (.alloc [(.bool false),(.str []),(.bool false),(.str []),(.int .i64 0),(.int .i64 0),(.str []),.nils,(.str []),(.str []),.nils,.nils,.nils])])
 (.seq (.reg [Im 4 0,In 5 4,If 6 0 5,I1 7 (.bsl 1 [(Ks ([112,101,114,109,105,116])),(Ks ([100,101,110,121]))]),Ic 8 119 [(t 6),(t 7)],I1 9 (.bin .eql (t 8) (Ks ([112,101,114,109,105,116]))),I1 10 (.build [(.bool false),(.str []),(.bool false),(.str []),(.int .i64 0),(.int .i64 0),(.str []),.nils,(.str []),(.str []),.nils,.nils,.nils] [(0,1,(t 9))]),I1 3 (.alloc [(.bool false),(.str []),(.bool false),(.str []),(.int .i64 0),(.int .i64 0),(.str []),.nils,(.str []),(.str []),.nils,.nils,.nils]),Is 13 3 10])
 (.seq (.reg [Im 11 0,In 12 11,If 13 0 12,Ic 14 121 [(t 13)],If 15 1 3,Is 1 15 14])
 (.seq (.seq (.reg [Im 16 0,In 17 16,If 18 0 17,Ic 19 69 [(t 18),(Ks ([105,102]))],If 20 2 3,Is 1 20 19])
 (.seq (.reg [If 21 2 3,Il 22 21])
 (.cond (t 22)
 (.reg [Im 23 0,Ic 24 122 [(t 23)],If 25 3 3,Is 8 25 24])
 .skip)))
 (.seq (.block 0
 (.loop
 (.seq (.seq (.reg [Im 26 0,In 27 26,If 28 0 27,If 29 2 28,Il 30 29,I1 31 (.bin .eql (t 30) (Ki 0))])
 (.cond (t 31)
 .skip
 (.exit 0)))
 (.block 1
 (.block 2
 (.seq (.reg [Im 38 0,In 39 38,If 40 0 39,Ic 41 69 [(t 40),(Ks ([100,117,116,121]))],Im 37 41])
 (.cond (t 37)
 (.draw 0 [(If 42 11 3,[]),(Il 43 42,[]),(Im 44 0,[]),(In 45 44,[]),(If 46 0 45,[]),(Ic 47 120 [(t 46),(Ki 3)],[Il 43 42]),(I1 48 (.field false 1 1 (t 47)),[]),(I1 49 (.bslq 1 [(t 48)]),[]),(I1 50 (.app false 1 16 (t 43) (t 49)),[]),(If 51 11 3,[]),(Is 1 51 50,[])])
 (.seq (.reg [Im 53 0,In 54 53,If 55 0 54,Ic 56 69 [(t 55),(Ks ([97,100,118,105,99,101]))],Im 52 56])
 (.cond (t 52)
 (.draw 0 [(If 57 12 3,[]),(Il 58 57,[]),(Im 59 0,[]),(In 60 59,[]),(If 61 0 60,[]),(Ic 62 120 [(t 61),(Ki 3)],[Il 58 57]),(I1 63 (.field false 1 1 (t 62)),[]),(I1 64 (.bslq 1 [(t 63)]),[]),(I1 65 (.app false 1 16 (t 58) (t 64)),[]),(If 66 12 3,[]),(Is 1 66 65,[])])
 (.seq (.reg [Im 32 0,In 33 32,If 34 0 33,Ic 35 71 [(t 34),(Ks ([59]))]])
 (.seq (.reg [Ia 36 13 3,Is 13 2 36])
 .ret)))))))))))
 (.seq (.reg [Ia 67 13 3,Is 13 2 67])
 .ret))))))
theorem fn123 : Fn Tryz.prog 123 68 [.inr (2,true,13)] c123:=⟨⟨_,_,Tryz.func123,rfl,by kernel_rfl,Tryz.ntmps123,by kernel_rfl,Hq0,by kernel_rfl⟩⟩
def c173 : C :=
 (.seq (.reg [I1 0 (.mv KN)])
 (.seq (.reg [I1 1 (.bsl 1 [(Ks ([123])),(Ks ([125])),(Ks ([40])),(Ks ([41])),(Ks ([91])),(Ks ([93])),(Ks ([59])),(Ks ([46])),(Ks ([44])),(Ks ([43])),(Ks ([45])),(Ks ([42])),(Ks ([60])),(Ks ([62])),(Ks ([61,61])),(Ks ([33,61])),(Ks ([60,61])),(Ks ([62,61]))]),Im 0 1])
 .ret))
theorem fn173 : Fn Tryz.prog 173 2 [.inl 0] c173:=⟨⟨_,_,Tryz.func173,rfl,by kernel_rfl,Tryz.ntmps173,by kernel_rfl,Hq0,by kernel_rfl⟩⟩
def c175 : C :=
 (.seq (.reg [I1 2 (.mv KF)])
 (.seq (.reg [Im 3 0,Im 4 0,I1 5 (.bin .neq (t 3) (t 4)),Im 2 5])
 .ret))
theorem fn175 : Fn Tryz.prog 175 6 [.inl 2] c175:=⟨⟨_,_,Tryz.func175,rfl,by kernel_rfl,Tryz.ntmps175,by kernel_rfl,Hq0,by kernel_rfl⟩⟩
def c179 : C :=
 (.seq (.reg [I1 1 (.box (t 0)),I1 2 (.mv KF)])
 (.seq (.seq (.reg [If 3 3 1,Il 4 3,Iz 5 4,I1 6 (.bin .gtr (t 5) (Ki 0)),Im 7 6,Jf 8 7 false 0 1,Jl 9 7 false 8,I3 10 7 (.bin .neq (t 9) (Ki 3)),Jm 11 7 false 10,Jf 12 11 true 2 1,Jl 13 11 true 12,I2 14 11 (.bin .neq (t 13) (Ks ([]))),I3 15 7 (.pick (t 11) (t 14) KF),I1 16 (.pick (t 7) KT (t 15))])
 (.cond (t 16)
 (.seq (.reg [I1 2 (.mv KF)])
 .ret)
 .skip))
 (.seq (.seq (.reg [If 17 0 1,Il 18 17])
 (.block 0
 (.seq (.reg [I1 20 (.bin .eql (t 18) (Ki 0)),Im 19 20])
 (.cond (t 19)
 (.seq (.reg [If 21 1 1,Il 22 21,I1 23 (.bin .eql (t 22) (Ki 0)),Im 2 23])
 .ret)
 (.seq (.reg [I1 25 (.bin .eql (t 18) (Ki 1)),Im 24 25])
 (.cond (t 24)
 (.seq (.reg [If 26 1 1,Il 27 26,I1 28 (.bin .eql (t 27) (Ki 0)),Im 29 28,Jf 30 29 false 1 1,Jl 31 29 false 30,I3 32 29 (.bin .eql (t 31) (Ki 1)),I1 33 (.pick (t 29) KT (t 32)),Im 2 33])
 .ret)
 (.seq (.reg [I1 35 (.bin .eql (t 18) (Ki 2)),Im 34 35])
 (.cond (t 34)
 (.seq (.reg [I1 2 (.mv KT)])
 .ret)
 (.seq (.reg [I1 37 (.bin .eql (t 18) (Ki 3)),Im 36 37])
 (.cond (t 36)
 (.seq (.reg [If 38 1 1,Il 39 38,I1 40 (.bin .eql (t 39) (Ki 0)),Im 41 40,Jf 42 41 true 2 1,Jl 43 41 true 42,I2 44 41 (.lens (t 43)),I2 45 41 (.bin .leq (t 44) (Ki 64)),I1 46 (.pick (t 41) (t 45) KF),Im 2 46])
 .ret)
 (.seq (.reg [I1 48 (.bin .eql (t 18) (Ki 4)),Im 47 48])
 (.cond (t 47)
 (.seq (.reg [If 49 1 1,Il 50 49,I1 51 (.bin .geq (t 50) (Ki 0)),Im 52 51,Jf 53 52 true 1 1,Jl 54 52 true 53,I2 55 52 (.bin .leq (t 54) (Ki 1099511627776)),I1 56 (.pick (t 52) (t 55) KF),Im 2 56])
 .ret)
 .skip))))))))))))
 (.seq (.reg [I1 2 (.mv KF)])
 .ret))))
theorem fn179 : Fn Tryz.prog 179 57 [.inl 2] c179:=⟨⟨_,_,Tryz.func179,rfl,by kernel_rfl,Tryz.ntmps179,by kernel_rfl,Hq0,by kernel_rfl⟩⟩
end GP
namespace GP
open Go Go.Proofs
open Rd O
set_option maxRecDepth 100000
def c16 : C :=
 (.seq (.reg [I1 0 (.mv KN)])
 (.seq (.reg [I1 1 (.bsl 1 [(Ks ([102,97,99,116])),(Ks ([116,114,117,116,104])),(Ks ([110,117,109,98,101,114])),(Ks ([116,101,120,116])),(Ks ([116,105,109,101])),(Ks ([98,97,103])),(Ks ([117,115,101])),(Ks ([112,111,108,105,99,121])),(Ks ([98,121])),(Ks ([102,111,114])),(Ks ([112,101,114,109,105,116])),(Ks ([100,101,110,121])),(Ks ([105,102])),(Ks ([100,117,116,121])),(Ks ([97,100,118,105,99,101])),(Ks ([116,114,117,101])),(Ks ([102,97,108,115,101])),(Ks ([110,111,119])),(Ks ([111,114])),(Ks ([97,110,100])),(Ks ([110,111,116])),(Ks ([105,110])),(Ks ([104,97,115])),(Ks ([114,111,108,101])),(Ks ([115,105,122,101])),(Ks ([115,117,98,106,101,99,116])),(Ks ([114,101,115,111,117,114,99,101])),(Ks ([97,99,116,105,111,110])),(Ks ([101,110,118]))]),Im 0 1])
 .ret))
theorem fn16 : Fn Tryz.prog 16 2 [.inl 0] c16:=⟨⟨_,_,Tryz.func16,rfl,by kernel_rfl,Tryz.ntmps16,by kernel_rfl,Hq0,by kernel_rfl⟩⟩
def c18 : C :=
 (.seq (.reg [I1 0 (.mv KF)])
 (.seq (.reg [Ip 8 40 [(Ks ([49,32,43,32,50,32,42,32,51]))],Im 7 8,Ie 9 0 7,Ie 10 1 7,Ie 11 2 7,Im 1 9,Im 2 10,Im 3 11])
 (.seq (.reg [Im 13 1,Ip 14 19 [(t 13)],Im 12 14,Ie 15 0 12,Ie 16 1 12,Ie 17 2 12,I1 4 (.alloc [(.str []),(.int .i64 0),(.int .i64 0),(.str []),.nils,(.str []),(.str []),.nils]),Is 8 4 15,Im 5 16,Im 6 17])
 (.seq (.reg [Im 18 6,I1 19 (.bin .eql (t 18) (Ki 0)),Im 20 19,Jf 21 20 true 0 4,Jl 22 20 true 21,I2 23 20 (.bin .eql (t 22) (Ks ([43]))),I1 24 (.pick (t 20) (t 23) KF),Im 25 24,Jf 26 25 true 7 4,Jl 27 25 true 26,I2 28 25 (.len (t 27)),I2 29 25 (.bin .eql (t 28) (Ki 2)),I1 30 (.pick (t 25) (t 29) KF),Im 31 30,Jf 32 31 true 7 4,Jl 33 31 true 32,I2 34 31 (.iaddr 8 (t 33) (Ki 1)),Jf 35 31 true 0 34,Jl 36 31 true 35,I2 37 31 (.bin .eql (t 36) (Ks ([42]))),I1 38 (.pick (t 31) (t 37) KF),Im 0 38])
 .ret))))
theorem fn18 : Fn Tryz.prog 18 39 [.inl 0] c18:=⟨⟨_,_,Tryz.func18,rfl,by kernel_rfl,Tryz.ntmps18,by kernel_rfl,Hq0,by kernel_rfl⟩⟩
def c54 : C :=
 (.seq (.reg [I1 2 (.box (t 0)),I1 3 (.box (t 1)),I1 4 (.mv KF)])
 (.seq (.seq (.reg [If 8 0 2,Il 9 8,If 10 0 3,Il 11 10,I1 12 (.bin .neq (t 9) (t 11)),Im 13 12,Jf 14 13 false 1 2,Jl 15 13 false 14,Jf 16 13 false 1 3,Jl 17 13 false 16,I3 18 13 (.bin .neq (t 15) (t 17)),I1 19 (.pick (t 13) KT (t 18)),Im 20 19,Jf 21 20 false 2 2,Jl 22 20 false 21,Jf 23 20 false 2 3,Jl 24 20 false 23,I3 25 20 (.bin .neq (t 22) (t 24)),I1 26 (.pick (t 20) KT (t 25)),Im 27 26,Jf 28 27 false 3 2,Jl 29 27 false 28,I3 30 27 (.len (t 29)),Jf 31 27 false 3 3,Jl 32 27 false 31,I3 33 27 (.len (t 32)),I3 34 27 (.bin .neq (t 30) (t 33)),I1 35 (.pick (t 27) KT (t 34))])
 (.cond (t 35)
 (.seq (.reg [I1 4 (.mv KF)])
 .ret)
 .skip))
 (.seq (.seq (.reg [I1 5 (.mv (Ki 0))])
 (.block 0
 (.loop
 (.seq (.seq (.reg [Im 36 5,If 37 3 2,Il 38 37,Iz 39 38,I1 40 (.bin .lss (t 36) (t 39))])
 (.cond (t 40)
 .skip
 (.exit 0)))
 (.seq (.block 1
 (.seq (.draw 2 [(If 43 3 2,[]),(Il 44 43,[]),(Im 45 5,[]),(I1 46 (.iaddr 4 (t 44) (t 45)),[]),(Ia 47 4 46,[]),(If 48 3 3,[]),(Il 49 48,[]),(Im 50 5,[]),(I1 51 (.iaddr 4 (t 49) (t 50)),[]),(Ia 52 4 51,[]),(I1 6 (.rawAt 2 [(.int .i64 0),(.int .i64 0),(.str []),.nils]),[]),(I1 7 (.rawAt 1 [(.int .i64 0),(.int .i64 0),(.str []),.nils]),[]),(I4 (.fillAt 2 4 (t 6) (t 47)),[]),(I4 (.fillAt 1 4 (t 7) (t 52)),[])])
 (.seq (.reg [If 53 0 6,Il 54 53,If 55 0 7,Il 56 55,I1 57 (.bin .neq (t 54) (t 56)),Im 58 57,Jf 59 58 false 1 6,Jl 60 58 false 59,Jf 61 58 false 1 7,Jl 62 58 false 61,I3 63 58 (.bin .neq (t 60) (t 62)),I1 64 (.pick (t 58) KT (t 63)),Im 65 64,Jf 66 65 false 2 6,Jl 67 65 false 66,Jf 68 65 false 2 7,Jl 69 65 false 68,I3 70 65 (.bin .neq (t 67) (t 69)),I1 71 (.pick (t 65) KT (t 70)),Im 72 71,Jf 73 72 false 3 6,Jl 74 72 false 73,I3 75 72 (.len (t 74)),I3 76 72 (.bin .gtr (t 75) (Ki 0)),I1 77 (.pick (t 72) KT (t 76)),Im 78 77,Jf 79 78 false 3 7,Jl 80 78 false 79,I3 81 78 (.len (t 80)),I3 82 78 (.bin .gtr (t 81) (Ki 0)),I1 83 (.pick (t 78) KT (t 82))])
 (.cond (t 83)
 (.seq (.reg [I1 4 (.mv KF)])
 .ret)
 .skip))))
 (.reg [Im 41 5,I1 42 (.bin .add (t 41) (Ki 1)),Im 5 42]))))))
 (.seq (.reg [I1 4 (.mv KT)])
 .ret))))
theorem fn54 : Fn Tryz.prog 54 84 [.inl 4] c54:=⟨⟨_,_,Tryz.func54,rfl,by kernel_rfl,Tryz.ntmps54,by kernel_rfl,Hq0,by kernel_rfl⟩⟩
def c67 : C :=
 (.seq (.reg [I1 2 (.mv KF)])
 (.seq (.seq (.reg [I1 3 (.mv (Ki 0))])
 (.block 0
 (.loop
 (.seq (.seq (.reg [Im 4 3,Im 5 0,Iz 6 5,I1 7 (.bin .lss (t 4) (t 6))])
 (.cond (t 7)
 .skip
 (.exit 0)))
 (.seq (.block 1
 (.seq (.reg [Im 10 0,Im 11 3,I1 12 (.iaddr 1 (t 10) (t 11)),Il 13 12,I1 14 (.build [(.int .i64 0),(.str []),(.int .i64 0)] [(0,1,(Ki 3)),(1,1,(t 13))]),Ip 15 57 [(t 14)],I1 16 (.un .not (t 15))])
 (.cond (t 16)
 (.seq (.reg [I1 2 (.mv KF)])
 .ret)
 .skip)))
 (.reg [Im 8 3,I1 9 (.bin .add (t 8) (Ki 1)),Im 3 9]))))))
 (.seq (.reg [I1 2 (.mv KT)])
 .ret)))
theorem fn67 : Fn Tryz.prog 67 17 [.inl 2] c67:=⟨⟨_,_,Tryz.func67,rfl,by kernel_rfl,Tryz.ntmps67,by kernel_rfl,Hq0,by kernel_rfl⟩⟩
def c70 : C :=
 (.seq (.reg [I1 2 (.alloc [(.str []),(.str []),(.int .i64 0),(.bool false)])])
 (.seq (.reg [I1 3 (.alloc [(.str []),(.str []),(.int .i64 0),(.bool false)])])
 (.seq (.reg [Im 5 0,In 6 5,If 7 0 6,Ic 8 118 [(t 7)],Im 4 8,Ie 9 0 4,Ie 10 1 4,If 11 0 3,Is 1 11 9,If 12 1 3,Is 1 12 10])
 (.seq (.seq (.reg [Im 13 0,In 14 13,If 15 0 14,I1 16 (.bsl 1 [(Ks ([116,114,117,116,104])),(Ks ([110,117,109,98,101,114])),(Ks ([116,101,120,116])),(Ks ([116,105,109,101]))]),Ic 17 119 [(t 15),(t 16)]])
 (.block 0
 (.seq (.reg [I1 19 (.bin .eql (t 17) (Ks ([116,114,117,116,104]))),Im 18 19])
 (.cond (t 18)
 (.reg [If 20 2 3,I4 (.store 1 (t 20) (Ki 1))])
 (.seq (.reg [I1 22 (.bin .eql (t 17) (Ks ([110,117,109,98,101,114]))),Im 21 22])
 (.cond (t 21)
 (.reg [If 23 2 3,I4 (.store 1 (t 23) (Ki 2))])
 (.seq (.reg [I1 25 (.bin .eql (t 17) (Ks ([116,101,120,116]))),Im 24 25])
 (.cond (t 24)
 (.reg [If 26 2 3,I4 (.store 1 (t 26) (Ki 3))])
 (.seq (.reg [I1 28 (.bin .eql (t 17) (Ks ([116,105,109,101]))),Im 27 28])
 (.cond (t 27)
 (.reg [If 29 2 3,I4 (.store 1 (t 29) (Ki 4))])
 .skip))))))))))
 (.seq (.reg [Im 30 0,In 31 30,If 32 0 31,Ic 33 69 [(t 32),(Ks ([98,97,103]))],If 34 3 3,Is 1 34 33])
 (.seq (.reg [Im 35 0,In 36 35,If 37 0 36,Ic 38 71 [(t 37),(Ks ([59]))]])
 (.seq (.reg [Ia 39 4 3,Is 4 2 39])
 .ret)))))))
theorem fn70 : Fn Tryz.prog 70 40 [.inr (2,true,4)] c70:=⟨⟨_,_,Tryz.func70,rfl,by kernel_rfl,Tryz.ntmps70,by kernel_rfl,Hq0,by kernel_rfl⟩⟩
def c92 : C :=
 (.seq (.reg [I1 4 (.alloc [(.int .i64 0),(.str []),(.int .i64 0)]),I1 5 (.mv (Ki 0))])
 (.seq (.reg [Im 16 0,Im 17 1,I1 18 (.idxs (t 16) (t 17)),Im 6 18])
 (.seq (.block 0
 (.seq (.reg [Im 20 6,I1 21 (.bin .geq (t 20) (k (.int .u8 97))),Im 22 21,Jm 23 22 true 6,I2 24 22 (.bin .leq (t 23) (k (.int .u8 122))),I1 25 (.pick (t 22) (t 24) KF),Im 19 25])
 (.cond (t 19)
 (.seq (.reg [Im 26 0,Im 27 1,Ip 28 144 [(t 26),(t 27),(Kf 146)],Im 7 28])
 (.seq (.seq (.reg [Im 29 7,I1 30 (.bin .gtr (t 29) (Ki 64))])
 (.cond (t 30)
 (.seq (.reg [I1 31 (.build [(.int .i64 0),(.str []),(.int .i64 0)] []),Is 3 4 31,I1 5 (.mv (Ki 0))])
 .ret)
 .skip))
 (.seq (.reg [Im 32 0,Im 33 1,Im 34 1,Im 35 7,I1 36 (.bin .add (t 34) (t 35)),I1 37 (.subs (t 32) (some (t 33)) (some (t 36))),I1 38 (.build [(.int .i64 0),(.str []),(.int .i64 0)] [(0,1,(Ki 1)),(1,1,(t 37))]),Im 39 7,Is 3 4 38,Im 5 39])
 .ret)))
 (.seq (.reg [Im 41 6,Ip 42 148 [(t 41)],Im 40 42])
 (.cond (t 40)
 (.seq (.reg [Im 44 0,Im 45 1,Ip 46 149 [(t 44),(t 45),(Ki 9223372036854775807)],Im 43 46,Ie 47 0 43,Ie 48 1 43,Im 8 47,Im 9 48])
 (.seq (.reg [Im 49 8,I1 50 (.build [(.int .i64 0),(.str []),(.int .i64 0)] [(0,1,(Ki 2)),(2,1,(t 49))]),Im 51 9,Is 3 4 50,Im 5 51])
 .ret))
 (.seq (.reg [Im 53 6,I1 54 (.bin .eql (t 53) (k (.int .u8 64))),Im 52 54])
 (.cond (t 52)
 (.seq (.reg [Im 56 0,Im 57 1,I1 58 (.bin .add (t 57) (Ki 1)),Ip 59 149 [(t 56),(t 58),(Ki 1099511627776)],Im 55 59,Ie 60 0 55,Ie 61 1 55,Im 10 60,Im 11 61])
 (.seq (.seq (.reg [Im 62 11,I1 63 (.bin .eql (t 62) (Ki 0))])
 (.cond (t 63)
 (.seq (.reg [I1 64 (.build [(.int .i64 0),(.str []),(.int .i64 0)] []),Is 3 4 64,I1 5 (.mv (Ki 0))])
 .ret)
 .skip))
 (.seq (.reg [Im 65 10,I1 66 (.build [(.int .i64 0),(.str []),(.int .i64 0)] [(0,1,(Ki 4)),(2,1,(t 65))]),Im 67 11,I1 68 (.bin .add (t 67) (Ki 1)),Is 3 4 66,Im 5 68])
 .ret)))
 (.seq (.reg [Im 70 6,I1 71 (.bin .eql (t 70) (k (.int .u8 34))),Im 69 71])
 (.cond (t 69)
 (.seq (.reg [Im 73 0,Im 74 1,Ip 75 150 [(t 73),(t 74)],Im 72 75,Ie 76 0 72,Ie 77 1 72,Im 12 76,Im 13 77])
 (.seq (.reg [Im 78 12,I1 79 (.build [(.int .i64 0),(.str []),(.int .i64 0)] [(0,1,(Ki 3)),(1,1,(t 78))]),Im 80 13,Is 3 4 79,Im 5 80])
 .ret))
 .skip)))))))))
 (.seq (.seq (.reg [Ip 81 151 [],Iz 82 81,I1 83 (.mv (Ki 0))])
 (.block 1
 (.loop
 (.seq (.reg [I1 84 (.bin .lss (t 83) (t 82))])
 (.seq (.cond (t 84)
 .skip
 (.exit 1))
 (.seq (.block 2
 (.seq (.reg [I1 85 (.iaddr 1 (t 81) (t 83)),Il 86 85,Im 15 86])
 (.seq (.reg [Im 87 0,Im 88 1,I1 89 (.subs (t 87) (some (t 88)) none),Im 90 15,Ip 91 152 [(t 89),(t 90)]])
 (.cond (t 91)
 (.seq (.reg [Im 92 15,I1 93 (.build [(.int .i64 0),(.str []),(.int .i64 0)] [(0,1,(Ki 5)),(1,1,(t 92))]),Im 94 15,I1 95 (.lens (t 94)),Is 3 4 93,Im 5 95])
 .ret)
 .skip))))
 (.reg [I1 96 (.bin .add (t 83) (Ki 1)),Im 83 96])))))))
 (.seq (.reg [I1 97 (.build [(.int .i64 0),(.str []),(.int .i64 0)] []),Is 3 4 97,I1 5 (.mv (Ki 0))])
 .ret)))))
theorem fn92 : Fn Tryz.prog 92 98 [.inr (4,true,3),.inl 5] c92:=⟨⟨_,_,Tryz.func92,rfl,by kernel_rfl,Tryz.ntmps92,by kernel_rfl,Hq0,by kernel_rfl⟩⟩
def c118 : C :=
 (.seq (.reg [I1 2 (.mv (Ks ([]))),I1 3 (.mv (Ks ([])))])
 (.seq (.reg [Im 5 0,I1 6 (.bsl 1 [(Ks ([115,117,98,106,101,99,116])),(Ks ([114,101,115,111,117,114,99,101])),(Ks ([97,99,116,105,111,110])),(Ks ([101,110,118]))]),Ic 7 119 [(t 5),(t 6)],Im 4 7])
 (.seq (.reg [Im 8 0,Ic 9 71 [(t 8),(Ks ([46]))]])
 (.seq (.reg [Im 10 4,Im 11 0,Ic 12 121 [(t 11)],Im 2 10,Im 3 12])
 .ret))))
theorem fn118 : Fn Tryz.prog 118 13 [.inl 2,.inl 3] c118:=⟨⟨_,_,Tryz.func118,rfl,by kernel_rfl,Tryz.ntmps118,by kernel_rfl,Hq0,by kernel_rfl⟩⟩
def c121 : C :=
 (.seq (.reg [I1 2 (.mv (Ks ([])))])
 (.seq (.seq (.reg [Im 4 0,Ip 5 177 [(t 4)],I1 3 (.alloc [(.int .i64 0),(.str []),(.int .i64 0)]),Is 3 3 5])
 (.seq (.reg [If 6 0 3,Il 7 6,I1 8 (.bin .neq (t 7) (Ki 1)),Im 9 8,Jf 10 9 false 1 3,Jl 11 9 false 10,I3 12 9 (.pcall (Kf 17) [(t 11)]),I1 13 (.pick (t 9) KT (t 12))])
 (.cond (t 13)
 (.seq (.reg [Im 14 0,Im 15 0,In 16 15,If 17 1 16,Il 18 17,Ic 19 105 [(t 14),(t 18),(Ki 2)]])
 (.seq (.reg [I1 2 (.mv (Ks ([])))])
 .ret))
 .skip)))
 (.seq (.reg [Im 20 0,Ic 21 120 [(t 20),(Ki 1)],I1 22 (.field false 1 1 (t 21)),Im 2 22])
 .ret)))
theorem fn121 : Fn Tryz.prog 121 23 [.inl 2] c121:=⟨⟨_,_,Tryz.func121,rfl,by kernel_rfl,Tryz.ntmps121,by kernel_rfl,Hq0,by kernel_rfl⟩⟩
def c122 : C :=
 (.seq (.reg [I1 2 (.alloc [(.str []),(.int .i64 0),(.int .i64 0),(.str []),.nils,(.str []),(.str []),.nils])])
 (.seq (.reg [Im 5 0,In 6 5,If 7 0 6,If 8 1 7,Il 9 8,Im 3 9])
 (.seq (.reg [Im 10 0,In 11 10,If 12 0 11,Ic 13 49 [(t 12)],I1 4 (.alloc [(.str []),(.int .i64 0),(.int .i64 0),(.str []),.nils,(.str []),(.str []),.nils]),Is 8 4 13])
 (.seq (.seq (.reg [Im 14 0,In 15 14,If 16 0 15,If 17 2 16,Il 18 17,I1 19 (.bin .eql (t 18) (Ki 0)),Im 20 19,I2 21 20 (.load true 8 (t 4)),I2 22 20 (.pcall (Kf 26) [(t 21)]),I2 23 20 (.bin .gtr (t 22) (Ki 12)),I1 24 (.pick (t 20) (t 23) KF)])
 (.cond (t 24)
 (.reg [Im 25 0,In 26 25,If 27 0 26,Im 28 3,Ic 29 105 [(t 27),(t 28),(Ki 11)]])
 .skip))
 (.seq (.reg [Ia 30 8 4,Is 8 2 30])
 .ret)))))
theorem fn122 : Fn Tryz.prog 122 31 [.inr (2,true,8)] c122:=⟨⟨_,_,Tryz.func122,rfl,by kernel_rfl,Tryz.ntmps122,by kernel_rfl,Hq0,by kernel_rfl⟩⟩
def c163 : C :=
 (.seq (.reg [I1 2 (.mv KF)])
 (.seq (.reg [Im 3 0,I1 4 (.bin .geq (t 3) (k (.int .u8 48))),Im 5 4,Jm 6 5 true 0,I2 7 5 (.bin .leq (t 6) (k (.int .u8 57))),I1 8 (.pick (t 5) (t 7) KF),Im 2 8])
 .ret))
theorem fn163 : Fn Tryz.prog 163 9 [.inl 2] c163:=⟨⟨_,_,Tryz.func163,rfl,by kernel_rfl,Tryz.ntmps163,by kernel_rfl,Hq0,by kernel_rfl⟩⟩
def c170 : C :=
 (.seq (.reg [I1 2 (.alloc [(.str []),(.int .i64 0),(.int .i64 0),(.str []),.nils,(.str []),(.str []),.nils])])
 (.seq (.seq (.reg [Im 3 0,Ic 4 69 [(t 3),(Ks ([110,111,116]))]])
 (.cond (t 4)
 (.seq (.reg [Im 5 0,Ic 6 170 [(t 5)],I1 7 (.bsl 8 [(t 6)]),I1 8 (.build [(.str []),(.int .i64 0),(.int .i64 0),(.str []),.nils,(.str []),(.str []),.nils] [(0,1,(Ks ([110,111,116]))),(7,1,(t 7))]),Is 8 2 8])
 .ret)
 .skip))
 (.seq (.reg [Im 9 0,Ic 10 202 [(t 9)],Is 8 2 10])
 .ret)))
theorem fn170 : Fn Tryz.prog 170 11 [.inr (2,true,8)] c170:=⟨⟨_,_,Tryz.func170,rfl,by kernel_rfl,Tryz.ntmps170,by kernel_rfl,Hq0,by kernel_rfl⟩⟩
def c203 : C :=
 (.seq (.reg [I1 4 (.mv (Ki 0))])
 (.seq (.seq (.reg [Im 5 0,Im 6 1,I1 7 (.bin .lss (t 5) (t 6))])
 (.cond (t 7)
 (.seq (.reg [I1 4 (.mv (k (.int .i64 (-1))))])
 .ret)
 .skip))
 (.seq (.seq (.reg [Im 8 0,Im 9 1,I1 10 (.bin .gtr (t 8) (t 9))])
 (.cond (t 10)
 (.seq (.reg [I1 4 (.mv (Ki 1))])
 .ret)
 .skip))
 (.seq (.reg [I1 4 (.mv (Ki 0))])
 .ret))))
theorem fn203 : Fn Tryz.prog 203 11 [.inl 4] c203:=⟨⟨_,_,Tryz.func203,rfl,by kernel_rfl,Tryz.ntmps203,by kernel_rfl,Hq0,by kernel_rfl⟩⟩
def c244 : C :=
 (.seq (.reg [I1 2 (.alloc [(.int .i64 0),(.int .i64 0),(.str []),.nils])])
 (.seq (.seq (.reg [Im 3 0])
 (.cond (t 3)
 (.seq (.reg [I1 4 (.build [(.int .i64 0),(.int .i64 0),(.str []),.nils] [(0,1,(Ki 1)),(1,1,(Ki 1))]),Is 4 2 4])
 .ret)
 .skip))
 (.seq (.reg [I1 5 (.build [(.int .i64 0),(.int .i64 0),(.str []),.nils] [(0,1,(Ki 1))]),Is 4 2 5])
 .ret)))
theorem fn244 : Fn Tryz.prog 244 6 [.inr (2,true,4)] c244:=⟨⟨_,_,Tryz.func244,rfl,by kernel_rfl,Tryz.ntmps244,by kernel_rfl,Hq0,by kernel_rfl⟩⟩
end GP
namespace GP
open Go Go.Proofs
open Rd O
set_option maxRecDepth 100000
def c20 : C :=
 (.seq (.reg [I1 2 (.box (t 0)),I1 3 (.box (t 1)),I1 4 (.mv KF)])
 (.seq (.seq (.reg [If 6 0 2,Il 7 6,If 8 0 3,Il 9 8,I1 10 (.bin .neq (t 7) (t 9)),Im 11 10,Jf 12 11 false 5 2,Jl 13 11 false 12,Jf 14 11 false 5 3,Jl 15 11 false 14,I3 16 11 (.bin .neq (t 13) (t 15)),I1 17 (.pick (t 11) KT (t 16)),Im 18 17,Jf 19 18 false 6 2,Jl 20 18 false 19,Jf 21 18 false 6 3,Jl 22 18 false 21,I3 23 18 (.bin .neq (t 20) (t 22)),I1 24 (.pick (t 18) KT (t 23)),Im 25 24,I3 26 25 (.load true 8 (t 2)),I3 27 25 (.load true 8 (t 3)),I3 28 25 (.pcall (Kf 51) [(t 26),(t 27)]),I3 29 25 (.un .not (t 28)),I1 30 (.pick (t 25) KT (t 29)),Im 31 30,Jf 32 31 false 7 2,Jl 33 31 false 32,I3 34 31 (.len (t 33)),Jf 35 31 false 7 3,Jl 36 31 false 35,I3 37 31 (.len (t 36)),I3 38 31 (.bin .neq (t 34) (t 37)),I1 39 (.pick (t 31) KT (t 38))])
 (.cond (t 39)
 (.seq (.reg [I1 4 (.mv KF)])
 .ret)
 .skip))
 (.seq (.seq (.reg [I1 5 (.mv (Ki 0))])
 (.block 0
 (.loop
 (.seq (.seq (.reg [Im 40 5,If 41 7 2,Il 42 41,Iz 43 42,I1 44 (.bin .lss (t 40) (t 43))])
 (.cond (t 44)
 .skip
 (.exit 0)))
 (.seq (.block 1
 (.seq (.draw 0 [(If 47 7 2,[]),(Il 48 47,[]),(Im 49 5,[]),(I1 50 (.iaddr 8 (t 48) (t 49)),[]),(Ia 51 8 50,[]),(If 52 7 3,[]),(Il 53 52,[]),(Im 54 5,[]),(I1 55 (.iaddr 8 (t 53) (t 54)),[]),(Ia 56 8 55,[]),(Ip 57 20 [(t 51),(t 56)],[]),(I1 58 (.un .not (t 57)),[])])
 (.cond (t 58)
 (.seq (.reg [I1 4 (.mv KF)])
 .ret)
 .skip)))
 (.reg [Im 45 5,I1 46 (.bin .add (t 45) (Ki 1)),Im 5 46]))))))
 (.seq (.reg [I1 4 (.mv KT)])
 .ret))))
theorem fn20 : Fn Tryz.prog 20 59 [.inl 4] c20:=⟨⟨_,_,Tryz.func20,rfl,by kernel_rfl,Tryz.ntmps20,by kernel_rfl,Hq0,by kernel_rfl⟩⟩
def c28 : C :=
 (.seq (.reg [I1 1 (.box (t 0)),I1 2 (.mv KF)])
 (.seq (.seq (.reg [If 7 0 1,Il 8 7,Iz 9 8,I1 10 (.bin .gtr (t 9) (Ki 12)),Im 11 10,Jf 12 11 false 2 1,Jl 13 11 false 12,I3 14 11 (.len (t 13)),I3 15 11 (.bin .gtr (t 14) (Ki 6)),I1 16 (.pick (t 11) KT (t 15)),Im 17 16,Jf 18 17 false 1 1,Jl 19 17 false 18,I3 20 17 (.lens (t 19)),I3 21 17 (.bin .gtr (t 20) (Ki 200)),I1 22 (.pick (t 17) KT (t 21))])
 (.cond (t 22)
 (.seq (.reg [I1 2 (.mv KF)])
 .ret)
 .skip))
 (.seq (.seq (.reg [I1 3 (.mv (Ki 0))])
 (.block 0
 (.loop
 (.seq (.seq (.reg [Im 23 3,If 24 2 1,Il 25 24,Iz 26 25,I1 27 (.bin .lss (t 23) (t 26))])
 (.cond (t 27)
 .skip
 (.exit 0)))
 (.seq (.block 1
 (.seq (.reg [If 30 2 1,Il 31 30,Im 32 3,I1 33 (.iaddr 13 (t 31) (t 32)),Ia 34 13 33,I1 4 (.alloc [(.str []),(.str []),(.str []),(.bool false),(.str []),(.int .i64 0),(.int .i64 0),(.str []),.nils,(.str []),(.str []),.nils,.nils]),Is 13 4 34])
 (.seq (.seq (.reg [If 35 12 4,Il 36 35,Iz 37 36,I1 38 (.bin .gtr (t 37) (Ki 8)),Im 39 38,Jf 40 39 false 4 4,I3 41 39 (.load true 8 (t 40)),I3 42 39 (.pcall (Kf 25) [(t 41)]),I3 43 39 (.un .not (t 42)),I1 44 (.pick (t 39) KT (t 43))])
 (.cond (t 44)
 (.seq (.reg [I1 2 (.mv KF)])
 .ret)
 .skip))
 (.seq (.reg [I1 5 (.mv (Ki 0))])
 (.block 2
 (.loop
 (.seq (.seq (.reg [Im 45 5,If 46 12 4,Il 47 46,Iz 48 47,I1 49 (.bin .lss (t 45) (t 48))])
 (.cond (t 49)
 .skip
 (.exit 2)))
 (.seq (.block 3
 (.seq (.reg [If 52 12 4,Il 53 52,Im 54 5,I1 55 (.iaddr 13 (t 53) (t 54)),Ia 56 13 55,I1 6 (.alloc [(.bool false),(.str []),(.bool false),(.str []),(.int .i64 0),(.int .i64 0),(.str []),.nils,(.str []),(.str []),.nils,.nils,.nils]),Is 13 6 56])
 (.seq (.reg [If 57 3 6,Ia 58 8 57,Ip 59 25 [(t 58)],I1 60 (.un .not (t 59)),Im 61 60,Jf 62 61 false 11 6,Jl 63 61 false 62,I3 64 61 (.len (t 63)),I3 65 61 (.bin .gtr (t 64) (Ki 4)),I1 66 (.pick (t 61) KT (t 65)),Im 67 66,Jf 68 67 false 12 6,Jl 69 67 false 68,I3 70 67 (.len (t 69)),I3 71 67 (.bin .gtr (t 70) (Ki 4)),I1 72 (.pick (t 67) KT (t 71))])
 (.cond (t 72)
 (.seq (.reg [I1 2 (.mv KF)])
 .ret)
 .skip))))
 (.reg [Im 50 5,I1 51 (.bin .add (t 50) (Ki 1)),Im 5 51])))))))))
 (.reg [Im 28 3,I1 29 (.bin .add (t 28) (Ki 1)),Im 3 29]))))))
 (.seq (.reg [I1 2 (.mv KT)])
 .ret))))
theorem fn28 : Fn Tryz.prog 28 73 [.inl 2] c28:=⟨⟨_,_,Tryz.func28,rfl,by kernel_rfl,Tryz.ntmps28,by kernel_rfl,Hq0,by kernel_rfl⟩⟩
def c40 : C :=
 (.seq (.reg [I1 2 (.mv KN),I1 3 (.mv (Ki 0)),I1 4 (.mv (Ki 0))])
 (.seq (.seq (.reg [Im 9 0,I1 10 (.lens (t 9)),I1 11 (.bin .gtr (t 10) (Ki 4096))])
 (.cond (t 11)
 (.seq (.reg [I1 2 (.mv KN),I1 3 (.mv (Ki 0)),I1 4 (.mv (Ki 3))])
 .ret)
 .skip))
 (.seq (.reg [I1 5 (.mv KN)])
 (.seq (.seq (.reg [Im 12 0,Ip 13 91 [(t 12),(Ki 0)],Im 6 13])
 (.block 0
 (.loop
 (.seq (.seq (.reg [Im 14 6,Im 15 0,I1 16 (.lens (t 15)),I1 17 (.bin .lss (t 14) (t 16))])
 (.cond (t 17)
 .skip
 (.exit 0)))
 (.seq (.block 1
 (.seq (.reg [Im 22 0,Im 23 6,Ip 24 92 [(t 22),(t 23)],Im 21 24,Ie 25 0 21,Ie 26 1 21,I1 7 (.alloc [(.int .i64 0),(.str []),(.int .i64 0)]),Is 3 7 25,Im 8 26])
 (.seq (.block 2
 (.seq (.reg [Im 28 8,I1 29 (.bin .eql (t 28) (Ki 0)),Im 27 29])
 (.cond (t 27)
 (.seq (.reg [Im 30 6,I1 2 (.mv KN),Im 3 30,I1 4 (.mv (Ki 2))])
 .ret)
 (.seq (.reg [Im 32 5,Iz 33 32,I1 34 (.bin .eql (t 33) (Ki 600)),Im 31 34])
 (.cond (t 31)
 (.seq (.reg [Im 35 6,I1 2 (.mv KN),Im 3 35,I1 4 (.mv (Ki 13))])
 .ret)
 .skip)))))
 (.seq (.reg [Im 36 5,Ia 37 3 7,I1 38 (.bsl 3 [(t 37)]),I1 39 (.app false 3 32 (t 36) (t 38)),Im 5 39])
 (.reg [Im 40 6,Im 41 8,I1 42 (.bin .add (t 40) (t 41)),Im 6 42])))))
 (.reg [Im 18 0,Im 19 6,Ip 20 91 [(t 18),(t 19)],Im 6 20]))))))
 (.seq (.reg [Im 43 5,Im 2 43,I1 3 (.mv (Ki 0)),I1 4 (.mv (Ki 0))])
 .ret)))))
theorem fn40 : Fn Tryz.prog 40 44 [.inl 2,.inl 3,.inl 4] c40:=⟨⟨_,_,Tryz.func40,rfl,by kernel_rfl,Tryz.ntmps40,by kernel_rfl,Hq0,by kernel_rfl⟩⟩
def c57 : C :=
 (.seq (.reg [I1 1 (.box (t 0)),I1 2 (.mv KF)])
 (.seq (.seq (.reg [If 4 0 1,Il 5 4])
 (.block 0
 (.seq (.reg [I1 7 (.bin .eql (t 5) (Ki 1)),Im 6 7])
 (.cond (t 6)
 (.seq (.reg [If 8 1 1,Il 9 8,Ip 10 109 [(t 9)],Im 11 10,Jf 12 11 true 2 1,Jl 13 11 true 12,I2 14 11 (.bin .eql (t 13) (Ki 0)),I1 15 (.pick (t 11) (t 14) KF),Im 2 15])
 .ret)
 (.seq (.reg [I1 17 (.bin .eql (t 5) (Ki 2)),Im 16 17])
 (.cond (t 16)
 (.seq (.reg [If 18 1 1,Il 19 18,I1 20 (.bin .eql (t 19) (Ks ([]))),Im 21 20,Jf 22 21 true 2 1,Jl 23 21 true 22,I2 24 21 (.bin .geq (t 23) (Ki 0)),I1 25 (.pick (t 21) (t 24) KF),Im 2 25])
 .ret)
 (.seq (.reg [I1 27 (.bin .eql (t 5) (Ki 3)),Im 26 27])
 (.cond (t 26)
 (.seq (.seq (.reg [I1 3 (.mv (Ki 0))])
 (.block 1
 (.loop
 (.seq (.seq (.reg [Im 28 3,If 29 1 1,Il 30 29,I1 31 (.lens (t 30)),I1 32 (.bin .lss (t 28) (t 31))])
 (.cond (t 32)
 .skip
 (.exit 1)))
 (.seq (.block 2
 (.seq (.reg [If 35 1 1,Il 36 35,Im 37 3,I1 38 (.idxs (t 36) (t 37)),I1 39 (.bin .lss (t 38) (k (.int .u8 32))),Im 40 39,Jf 41 40 false 1 1,Jl 42 40 false 41,Jm 43 40 false 3,I3 44 40 (.idxs (t 42) (t 43)),I3 45 40 (.bin .gtr (t 44) (k (.int .u8 126))),I1 46 (.pick (t 40) KT (t 45))])
 (.cond (t 46)
 (.seq (.reg [I1 2 (.mv KF)])
 .ret)
 .skip)))
 (.reg [Im 33 3,I1 34 (.bin .add (t 33) (Ki 1)),Im 3 34]))))))
 (.seq (.reg [If 47 1 1,Il 48 47,I1 49 (.lens (t 48)),I1 50 (.bin .leq (t 49) (Ki 64)),Im 51 50,Jf 52 51 true 2 1,Jl 53 51 true 52,I2 54 51 (.bin .eql (t 53) (Ki 0)),I1 55 (.pick (t 51) (t 54) KF),Im 2 55])
 .ret))
 (.seq (.reg [I1 57 (.bin .eql (t 5) (Ki 4)),Im 56 57])
 (.cond (t 56)
 (.seq (.reg [If 58 1 1,Il 59 58,I1 60 (.bin .eql (t 59) (Ks ([]))),Im 61 60,Jf 62 61 true 2 1,Jl 63 61 true 62,I2 64 61 (.bin .geq (t 63) (Ki 0)),I1 65 (.pick (t 61) (t 64) KF),Im 66 65,Jf 67 66 true 2 1,Jl 68 66 true 67,I2 69 66 (.bin .leq (t 68) (Ki 1099511627776)),I1 70 (.pick (t 66) (t 69) KF),Im 2 70])
 .ret)
 (.seq (.reg [I1 72 (.bin .eql (t 5) (Ki 5)),Im 71 72])
 (.cond (t 71)
 (.seq (.reg [If 73 1 1,Il 74 73,Ip 75 110 [(t 74)],Im 76 75,Jf 77 76 true 2 1,Jl 78 76 true 77,I2 79 76 (.bin .eql (t 78) (Ki 0)),I1 80 (.pick (t 76) (t 79) KF),Im 2 80])
 .ret)
 .skip))))))))))))
 (.seq (.reg [I1 2 (.mv KF)])
 .ret)))
theorem fn57 : Fn Tryz.prog 57 81 [.inl 2] c57:=⟨⟨_,_,Tryz.func57,rfl,by kernel_rfl,Tryz.ntmps57,by kernel_rfl,Hq0,by kernel_rfl⟩⟩
def c60 : C :=
 (.seq (.reg [I1 2 (.alloc [(.int .i64 0),(.str []),(.int .i64 0)])])
 (.seq (.reg [Im 3 0,I1 4 (.build [(.int .i64 0),(.str []),(.int .i64 0)] [(0,1,(Ki 5)),(1,1,(t 3))]),Is 3 2 4])
 .ret))
theorem fn60 : Fn Tryz.prog 60 5 [.inr (2,true,3)] c60:=⟨⟨_,_,Tryz.func60,rfl,by kernel_rfl,Tryz.ntmps60,by kernel_rfl,Hq0,by kernel_rfl⟩⟩
def c63 : C :=
 (.seq (.reg [I1 1 (.box (t 0)),I1 2 (.mv KF)])
 (.seq (.seq (.reg [If 4 0 1,Il 5 4,I1 6 (.lens (t 5)),I1 7 (.bin .gtr (t 6) (Ki 200)),Im 8 7,Jf 9 8 false 5 1,Jl 10 8 false 9,I3 11 8 (.lens (t 10)),I3 12 8 (.bin .gtr (t 11) (Ki 200)),I1 13 (.pick (t 8) KT (t 12)),Im 14 13,Jf 15 14 false 6 1,Jl 16 14 false 15,I3 17 14 (.lens (t 16)),I3 18 14 (.bin .gtr (t 17) (Ki 200)),I1 19 (.pick (t 14) KT (t 18)),Im 20 19,Jf 21 20 false 1 1,I3 22 20 (.load true 4 (t 21)),I3 23 20 (.bsl 4 [(t 22)]),I3 24 20 (.pcall (Kf 111) [(t 23),(Ki 1)]),I3 25 20 (.un .not (t 24)),I1 26 (.pick (t 20) KT (t 25))])
 (.cond (t 26)
 (.seq (.reg [I1 2 (.mv KF)])
 .ret)
 .skip))
 (.seq (.seq (.reg [I1 3 (.mv (Ki 0))])
 (.block 0
 (.loop
 (.seq (.seq (.reg [Im 27 3,If 28 7 1,Il 29 28,Iz 30 29,I1 31 (.bin .lss (t 27) (t 30))])
 (.cond (t 31)
 .skip
 (.exit 0)))
 (.seq (.block 1
 (.seq (.reg [If 34 7 1,Il 35 34,Im 36 3,I1 37 (.iaddr 8 (t 35) (t 36)),Ia 38 8 37,Ip 39 63 [(t 38)],I1 40 (.un .not (t 39))])
 (.cond (t 40)
 (.seq (.reg [I1 2 (.mv KF)])
 .ret)
 .skip)))
 (.reg [Im 32 3,I1 33 (.bin .add (t 32) (Ki 1)),Im 3 33]))))))
 (.seq (.reg [I1 2 (.mv KT)])
 .ret))))
theorem fn63 : Fn Tryz.prog 63 41 [.inl 2] c63:=⟨⟨_,_,Tryz.func63,rfl,by kernel_rfl,Tryz.ntmps63,by kernel_rfl,Hq0,by kernel_rfl⟩⟩
def c72 : C :=
 (.seq (.reg [I1 2 (.mv (Ks ([])))])
 (.seq (.reg [Im 3 0,In 4 3,If 5 0 4,Ic 6 120 [(t 5),(Ki 1)],I1 7 (.field false 1 1 (t 6)),Im 2 7])
 .ret))
theorem fn72 : Fn Tryz.prog 72 8 [.inl 2] c72:=⟨⟨_,_,Tryz.func72,rfl,by kernel_rfl,Tryz.ntmps72,by kernel_rfl,Hq0,by kernel_rfl⟩⟩
def c74 : C :=
 (.seq (.reg [I1 4 (.mv KF)])
 (.seq (.seq (.reg [Im 6 0,Iz 7 6,Im 8 1,Iz 9 8,I1 10 (.bin .neq (t 7) (t 9))])
 (.cond (t 10)
 (.seq (.reg [I1 4 (.mv KF)])
 .ret)
 .skip))
 (.seq (.seq (.reg [I1 5 (.mv (Ki 0))])
 (.block 0
 (.loop
 (.seq (.seq (.reg [Im 11 5,Im 12 0,Iz 13 12,I1 14 (.bin .lss (t 11) (t 13))])
 (.cond (t 14)
 .skip
 (.exit 0)))
 (.seq (.block 1
 (.seq (.draw 0 [(Im 17 0,[]),(Im 18 5,[]),(I1 19 (.iaddr 1 (t 17) (t 18)),[]),(Il 20 19,[]),(Im 21 1,[]),(Im 22 5,[]),(I1 23 (.iaddr 1 (t 21) (t 22)),[]),(Il 24 23,[]),(I1 25 (.bin .neq (t 20) (t 24)),[])])
 (.cond (t 25)
 (.seq (.reg [I1 4 (.mv KF)])
 .ret)
 .skip)))
 (.reg [Im 15 5,I1 16 (.bin .add (t 15) (Ki 1)),Im 5 16]))))))
 (.seq (.reg [I1 4 (.mv KT)])
 .ret))))
theorem fn74 : Fn Tryz.prog 74 26 [.inl 4] c74:=⟨⟨_,_,Tryz.func74,rfl,by kernel_rfl,Tryz.ntmps74,by kernel_rfl,Hq0,by kernel_rfl⟩⟩
def c102 : C :=
 (.seq (.reg [I1 4 (.mv (Ki 0))])
 (.seq (.seq (.reg [Im 6 0,Iz 7 6,I1 8 (.mv (Ki 0))])
 (.block 0
 (.loop
 (.seq (.reg [I1 9 (.bin .lss (t 8) (t 7))])
 (.seq (.cond (t 9)
 .skip
 (.exit 0))
 (.seq (.block 1
 (.seq (.reg [Im 10 8,Im 5 10])
 (.seq (.reg [Im 11 1,Im 12 0,Im 13 5,I1 14 (.iaddr 1 (t 12) (t 13)),Il 15 14,I1 16 (.bin .eql (t 11) (t 15))])
 (.cond (t 16)
 (.seq (.reg [Im 17 5,Im 4 17])
 .ret)
 .skip))))
 (.reg [I1 18 (.bin .add (t 8) (Ki 1)),Im 8 18])))))))
 (.seq (.reg [I1 4 (.mv (k (.int .i64 (-1))))])
 .ret)))
theorem fn102 : Fn Tryz.prog 102 19 [.inl 4] c102:=⟨⟨_,_,Tryz.func102,rfl,by kernel_rfl,Tryz.ntmps102,by kernel_rfl,Hq0,by kernel_rfl⟩⟩
def c104 : C :=
 (.seq (.reg [I1 2 (.alloc [(.str []),(.int .i64 0),(.int .i64 0),(.str []),.nils,(.str []),(.str []),.nils])])
 (.seq (.reg [Im 3 0,Im 4 0,I1 5 (.mkfn 170 [(t 4)] []),I1 6 (.bsl 1 [(Ks ([97,110,100]))]),Ic 7 103 [(t 3),(t 5),(t 6)],Is 8 2 7])
 .ret))
theorem fn104 : Fn Tryz.prog 104 8 [.inr (2,true,8)] c104:=⟨⟨_,_,Tryz.func104,rfl,by kernel_rfl,Tryz.ntmps104,by kernel_rfl,Hq0,by kernel_rfl⟩⟩
def c105 : C :=
 (.seq (.reg [Im 6 0,In 7 6,If 8 2 7,Il 9 8,I1 10 (.bin .eql (t 9) (Ki 0))])
 (.cond (t 10)
 (.reg [Im 11 0,Im 12 0,Im 13 1,Im 14 2,In 15 11,If 16 1 15,Is 1 16 13,In 17 12,If 18 2 17,Is 1 18 14])
 .skip))
theorem fn105 : Fn Tryz.prog 105 19 [] c105:=⟨⟨_,_,Tryz.func105,rfl,by kernel_rfl,Tryz.ntmps105,by kernel_rfl,Hq0,by kernel_rfl⟩⟩
def c109 : C :=
 (.seq (.reg [I1 2 (.mv KF)])
 (.seq (.seq (.reg [I1 3 (.mv (Ki 0))])
 (.block 0
 (.loop
 (.seq (.seq (.reg [Im 4 3,Im 5 0,I1 6 (.lens (t 5)),I1 7 (.bin .lss (t 4) (t 6))])
 (.cond (t 7)
 .skip
 (.exit 0)))
 (.seq (.block 1
 (.seq (.reg [Im 10 0,Im 11 3,I1 12 (.idxs (t 10) (t 11)),Ip 13 162 [(t 12)],I1 14 (.un .not (t 13)),Im 15 14,Jm 16 15 true 3,I2 17 15 (.bin .eql (t 16) (Ki 0)),Jm 18 15 true 17,Jm 19 18 false 0,Jm 20 18 false 3,I3 21 18 (.idxs (t 19) (t 20)),I3 22 18 (.pcall (Kf 163) [(t 21)]),I3 23 18 (.un .not (t 22)),Jm 24 18 false 23,Jm 25 24 true 0,Jm 26 24 true 3,I2 27 24 (.idxs (t 25) (t 26)),I2 28 24 (.bin .neq (t 27) (k (.int .u8 95))),I3 29 18 (.pick (t 24) (t 28) KF),I2 30 15 (.pick (t 18) KT (t 29)),I1 31 (.pick (t 15) (t 30) KF)])
 (.cond (t 31)
 (.seq (.reg [I1 2 (.mv KF)])
 .ret)
 .skip)))
 (.reg [Im 8 3,I1 9 (.bin .add (t 8) (Ki 1)),Im 3 9]))))))
 (.seq (.reg [Im 32 0,I1 33 (.lens (t 32)),I1 34 (.bin .gtr (t 33) (Ki 0)),Im 35 34,Jm 36 35 true 0,I2 37 35 (.lens (t 36)),I2 38 35 (.bin .leq (t 37) (Ki 64)),I1 39 (.pick (t 35) (t 38) KF),Im 2 39])
 .ret)))
theorem fn109 : Fn Tryz.prog 109 40 [.inl 2] c109:=⟨⟨_,_,Tryz.func109,rfl,by kernel_rfl,Tryz.ntmps109,by kernel_rfl,Hq0,by kernel_rfl⟩⟩
def c111 : C :=
 (.seq (.reg [I1 4 (.mv KF)])
 (.seq (.seq (.reg [I1 5 (.mv (Ki 0))])
 (.block 0
 (.loop
 (.seq (.seq (.reg [Im 7 5,Im 8 0,Iz 9 8,I1 10 (.bin .lss (t 7) (t 9)),Im 11 10,Jm 12 11 true 5,I2 13 11 (.bin .lss (t 12) (Ki 100)),I1 14 (.pick (t 11) (t 13) KF)])
 (.cond (t 14)
 .skip
 (.exit 0)))
 (.seq (.block 1
 (.seq (.seq (.reg [Im 17 0,Im 18 5,I1 19 (.iaddr 4 (t 17) (t 18)),If 20 2 19,Il 21 20,I1 22 (.lens (t 21)),I1 23 (.bin .gtr (t 22) (Ki 200)),Im 24 23,Jm 25 24 false 0,Jm 26 24 false 5,I3 27 24 (.iaddr 4 (t 25) (t 26)),Jf 28 24 false 3 27,Jl 29 24 false 28,I3 30 24 (.len (t 29)),I3 31 24 (.bin .gtr (t 30) (Ki 30)),I1 32 (.pick (t 24) KT (t 31))])
 (.cond (t 32)
 (.seq (.reg [I1 4 (.mv KF)])
 .ret)
 .skip))
 (.seq (.reg [I1 6 (.mv (Ki 0))])
 (.block 2
 (.loop
 (.seq (.seq (.reg [Im 33 6,Im 34 0,Im 35 5,I1 36 (.iaddr 4 (t 34) (t 35)),If 37 3 36,Il 38 37,Iz 39 38,I1 40 (.bin .lss (t 33) (t 39))])
 (.cond (t 40)
 .skip
 (.exit 2)))
 (.seq (.block 3
 (.seq (.reg [Im 43 0,Im 44 5,I1 45 (.iaddr 4 (t 43) (t 44)),If 46 3 45,Il 47 46,Im 48 6,I1 49 (.iaddr 4 (t 47) (t 48)),If 50 2 49,Il 51 50,I1 52 (.lens (t 51)),I1 53 (.bin .gtr (t 52) (Ki 200)),Im 54 53,Jm 55 54 false 0,Jm 56 54 false 5,I3 57 54 (.iaddr 4 (t 55) (t 56)),Jf 58 54 false 3 57,Jl 59 54 false 58,Jm 60 54 false 6,I3 61 54 (.iaddr 4 (t 59) (t 60)),Jf 62 54 false 3 61,Jl 63 54 false 62,I3 64 54 (.len (t 63)),I3 65 54 (.bin .gtr (t 64) (Ki 0)),I1 66 (.pick (t 54) KT (t 65))])
 (.cond (t 66)
 (.seq (.reg [I1 4 (.mv KF)])
 .ret)
 .skip)))
 (.reg [Im 41 6,I1 42 (.bin .add (t 41) (Ki 1)),Im 6 42]))))))))
 (.reg [Im 15 5,I1 16 (.bin .add (t 15) (Ki 1)),Im 5 16]))))))
 (.seq (.reg [Im 67 0,Iz 68 67,Im 69 1,I1 70 (.bin .leq (t 68) (t 69)),Im 4 70])
 .ret)))
theorem fn111 : Fn Tryz.prog 111 71 [.inl 4] c111:=⟨⟨_,_,Tryz.func111,rfl,by kernel_rfl,Tryz.ntmps111,by kernel_rfl,Hq0,by kernel_rfl⟩⟩
def c112 : C :=
 (.seq (.reg [I1 2 (.mv (Ki 0))])
 (.seq (.reg [I1 3 (.mv (Ki 0))])
 (.seq (.seq (.reg [Im 6 0,Iz 7 6,I1 8 (.mv (Ki 0))])
 (.block 0
 (.loop
 (.seq (.reg [I1 9 (.bin .lss (t 8) (t 7))])
 (.seq (.cond (t 9)
 .skip
 (.exit 0))
 (.seq (.block 1
 (.seq (.reg [I1 10 (.iaddr 1 (t 6) (t 8)),Il 11 10,Im 5 11])
 (.seq (.reg [Im 12 5,Im 13 3,I1 14 (.bin .neq (t 12) (t 13))])
 (.cond (t 14)
 (.seq (.reg [Im 15 5,Im 2 15])
 .ret)
 .skip))))
 (.reg [I1 16 (.bin .add (t 8) (Ki 1)),Im 8 16])))))))
 (.seq (.reg [Im 17 3,Im 2 17])
 .ret))))
theorem fn112 : Fn Tryz.prog 112 18 [.inl 2] c112:=⟨⟨_,_,Tryz.func112,rfl,by kernel_rfl,Tryz.ntmps112,by kernel_rfl,Hq0,by kernel_rfl⟩⟩
def c114 : C :=
 (.seq (.reg [I1 4 (.mv (Ki 0))])
 (.seq (.reg [Im 7 0,Ip 8 175 [(t 7)],Im 5 8])
 (.seq (.reg [Im 9 1,Ip 10 175 [(t 9)],Im 6 10])
 (.seq (.seq (.reg [Im 11 5])
 (.cond (t 11)
 (.seq (.seq (.reg [Im 12 6])
 (.cond (t 12)
 (.seq (.reg [I1 4 (.mv (Ki 0))])
 .ret)
 .skip))
 (.seq (.reg [I1 4 (.mv (k (.int .i64 (-1))))])
 .ret))
 .skip))
 (.seq (.seq (.reg [Im 13 6])
 (.cond (t 13)
 (.seq (.reg [I1 4 (.mv (Ki 1))])
 .ret)
 .skip))
 (.seq (.seq (.reg [Im 14 0,Im 15 1,I1 16 (.bin .lss (t 14) (t 15))])
 (.cond (t 16)
 (.seq (.reg [I1 4 (.mv (k (.int .i64 (-1))))])
 .ret)
 .skip))
 (.seq (.seq (.reg [Im 17 0,Im 18 1,I1 19 (.bin .gtr (t 17) (t 18))])
 (.cond (t 19)
 (.seq (.reg [I1 4 (.mv (Ki 1))])
 .ret)
 .skip))
 (.seq (.reg [I1 4 (.mv (Ki 0))])
 .ret))))))))
theorem fn114 : Fn Tryz.prog 114 20 [.inl 4] c114:=⟨⟨_,_,Tryz.func114,rfl,by kernel_rfl,Tryz.ntmps114,by kernel_rfl,Hq0,by kernel_rfl⟩⟩
def c152 : C :=
 (.seq (.reg [I1 4 (.mv KF)])
 (.seq (.reg [Im 5 0,Im 6 1,Ip 7 186 [(t 5),(t 6)],Im 4 7])
 .ret))
theorem fn152 : Fn Tryz.prog 152 8 [.inl 4] c152:=⟨⟨_,_,Tryz.func152,rfl,by kernel_rfl,Tryz.ntmps152,by kernel_rfl,Hq0,by kernel_rfl⟩⟩
def c186 : C :=
 (.seq (.reg [I1 4 (.mv KF)])
 (.seq (.reg [Im 5 0,I1 6 (.lens (t 5)),Im 7 1,I1 8 (.lens (t 7)),I1 9 (.bin .geq (t 6) (t 8)),Im 10 9,Jm 11 10 true 0,Jm 12 10 true 1,I2 13 10 (.lens (t 12)),I2 14 10 (.subs (t 11) none (some (t 13))),Jm 15 10 true 1,I2 16 10 (.bin .eql (t 14) (t 15)),I1 17 (.pick (t 10) (t 16) KF),Im 4 17])
 .ret))
theorem fn186 : Fn Tryz.prog 186 18 [.inl 4] c186:=⟨⟨_,_,Tryz.func186,rfl,by kernel_rfl,Tryz.ntmps186,by kernel_rfl,Hq0,by kernel_rfl⟩⟩
def c199 : C :=
 (.seq (.reg [I1 2 (.mv KF)])
 (.seq (.reg [Im 3 0,Ip 4 147 [(t 3)],Im 5 4,Jm 6 5 false 0,I3 7 5 (.pcall (Kf 148) [(t 6)]),I1 8 (.pick (t 5) KT (t 7)),Im 2 8])
 .ret))
theorem fn199 : Fn Tryz.prog 199 9 [.inl 2] c199:=⟨⟨_,_,Tryz.func199,rfl,by kernel_rfl,Tryz.ntmps199,by kernel_rfl,Hq0,by kernel_rfl⟩⟩
end GP
namespace GP
open Go Go.Proofs
open Rd O
set_option maxRecDepth 100000
def c22 : C :=
 (.seq (.reg [I1 1 (.box (t 0)),I1 2 (.mv (Ki 0))])
 (.seq (.reg [I1 3 (.mv (Ki 1))])
 (.seq (.seq (.reg [I1 4 (.mv (Ki 0))])
 (.block 0
 (.loop
 (.seq (.seq (.reg [Im 5 4,If 6 7 1,Il 7 6,Iz 8 7,I1 9 (.bin .lss (t 5) (t 8))])
 (.cond (t 9)
 .skip
 (.exit 0)))
 (.seq (.block 1
 (.reg [Im 12 3,If 13 7 1,Il 14 13,Im 15 4,I1 16 (.iaddr 8 (t 14) (t 15)),Ia 17 8 16,Ip 18 22 [(t 17)],I1 19 (.bin .add (Ki 1) (t 18)),I1 20 (.mx (t 12) (t 19)),Im 3 20]))
 (.reg [Im 10 4,I1 11 (.bin .add (t 10) (Ki 1)),Im 4 11]))))))
 (.seq (.reg [Im 21 3,Im 2 21])
 .ret))))
theorem fn22 : Fn Tryz.prog 22 22 [.inl 2] c22:=⟨⟨_,_,Tryz.func22,rfl,by kernel_rfl,Tryz.ntmps22,by kernel_rfl,Hq0,by kernel_rfl⟩⟩
def c30 : C :=
 (.seq (.reg [I1 2 (.box (t 0)),I1 4 (.mv KN)])
 (.seq (.reg [I1 5 (.mv KN)])
 (.seq (.seq (.reg [I1 6 (.mv (Ki 0))])
 (.block 0
 (.loop
 (.seq (.seq (.reg [Im 11 6,If 12 0 2,Il 13 12,Iz 14 13,I1 15 (.bin .lss (t 11) (t 14))])
 (.cond (t 15)
 .skip
 (.exit 0)))
 (.seq (.block 1
 (.seq (.reg [If 18 0 2,Il 19 18,Im 20 6,I1 21 (.iaddr 4 (t 19) (t 20)),Ia 22 4 21,I1 7 (.alloc [(.str []),(.str []),(.int .i64 0),(.bool false)]),Is 4 7 22])
 (.seq (.draw 0 [(Im 23 5,[]),(Ip 24 59 [(Ks ([102,97,99,116]))],[]),(If 25 0 7,[]),(Il 26 25,[]),(Ip 27 59 [(t 26)],[]),(Ip 28 60 [(Ks ([46]))],[]),(If 29 1 7,[]),(Il 30 29,[]),(Ip 31 59 [(t 30)],[]),(I1 32 (.build [(.str []),(.str []),(.str []),(.str []),(.str [])] [(0,1,(Ks ([]))),(1,1,(Ks ([116,114,117,116,104]))),(2,1,(Ks ([110,117,109,98,101,114]))),(3,1,(Ks ([116,101,120,116]))),(4,1,(Ks ([116,105,109,101])))]),[]),(If 33 2 7,[]),(Il 34 33,[]),(I1 35 (.idxa false 1 5 (t 32) (t 34)),[]),(Ip 36 59 [(t 35)],[]),(I1 37 (.bslq 3 [(t 24),(t 27),(t 28),(t 31),(t 36)]),[]),(I1 38 (.app false 3 32 (t 23) (t 37)),[]),(Im 5 38,[])])
 (.seq (.seq (.reg [If 39 3 7,Il 40 39])
 (.cond (t 40)
 (.reg [Im 41 5,Ip 42 59 [(Ks ([98,97,103]))],I1 43 (.bsl 3 [(t 42)]),I1 44 (.app false 3 32 (t 41) (t 43)),Im 5 44])
 .skip))
 (.reg [Im 45 5,Ip 46 60 [(Ks ([59]))],I1 47 (.bsl 3 [(t 46)]),I1 48 (.app false 3 32 (t 45) (t 47)),Im 5 48])))))
 (.reg [Im 16 6,I1 17 (.bin .add (t 16) (Ki 1)),Im 6 17]))))))
 (.seq (.draw 0 [(Im 49 5,[]),(Ip 50 59 [(Ks ([117,115,101]))],[]),(If 51 1 2,[]),(Il 52 51,[]),(Ip 53 59 [(t 52)],[]),(Ip 54 60 [(Ks ([59]))],[]),(I1 55 (.bslq 3 [(t 50),(t 53),(t 54)]),[]),(I1 56 (.app false 3 32 (t 49) (t 55)),[]),(Im 5 56,[])])
 (.seq (.seq (.reg [I1 8 (.mv (Ki 0))])
 (.block 2
 (.loop
 (.seq (.seq (.reg [Im 57 8,If 58 2 2,Il 59 58,Iz 60 59,I1 61 (.bin .lss (t 57) (t 60))])
 (.cond (t 61)
 .skip
 (.exit 2)))
 (.seq (.block 3
 (.seq (.reg [If 64 2 2,Il 65 64,Im 66 8,I1 67 (.iaddr 13 (t 65) (t 66)),Ia 68 13 67,I1 9 (.alloc [(.str []),(.str []),(.str []),(.bool false),(.str []),(.int .i64 0),(.int .i64 0),(.str []),.nils,(.str []),(.str []),.nils,.nils]),Is 13 9 68])
 (.seq (.draw 0 [(Im 69 5,[]),(Ip 70 59 [(Ks ([112,111,108,105,99,121]))],[]),(If 71 0 9,[]),(Il 72 71,[]),(Ip 73 59 [(t 72)],[]),(Ip 74 59 [(Ks ([98,121]))],[]),(If 75 1 9,[]),(Il 76 75,[]),(Ip 77 59 [(t 76)],[]),(Ip 78 59 [(Ks ([117,115,101]))],[]),(If 79 2 9,[]),(Il 80 79,[]),(Ip 81 59 [(t 80)],[]),(Ip 82 60 [(Ks ([123]))],[]),(I1 83 (.bslq 3 [(t 70),(t 73),(t 74),(t 77),(t 78),(t 81),(t 82)]),[]),(I1 84 (.app false 3 32 (t 69) (t 83)),[]),(Im 5 84,[])])
 (.seq (.seq (.reg [If 85 3 9,Il 86 85])
 (.cond (t 86)
 (.seq (.reg [Im 87 5,Ip 88 59 [(Ks ([102,111,114]))],I1 89 (.bsl 3 [(t 88)]),I1 90 (.app false 3 32 (t 87) (t 89)),Im 5 90])
 (.seq (.reg [Im 91 5,If 92 4 9,Ia 93 8 92,Im 94 1,Ip 95 24 [(t 93),(t 94)],I1 96 (.app false 3 32 (t 91) (t 95)),Im 5 96])
 (.reg [Im 97 5,Ip 98 60 [(Ks ([59]))],I1 99 (.bsl 3 [(t 98)]),I1 100 (.app false 3 32 (t 97) (t 99)),Im 5 100])))
 .skip))
 (.seq (.seq (.reg [I1 10 (.mv (Ki 0))])
 (.block 4
 (.loop
 (.seq (.seq (.reg [Im 101 10,If 102 12 9,Il 103 102,Iz 104 103,I1 105 (.bin .lss (t 101) (t 104))])
 (.cond (t 105)
 .skip
 (.exit 4)))
 (.seq (.block 5
 (.reg [Im 108 5,If 109 12 9,Il 110 109,Im 111 10,I1 112 (.iaddr 13 (t 110) (t 111)),Ia 113 13 112,Im 114 1,Ip 115 68 [(t 113),(t 114)],I1 116 (.app false 3 32 (t 108) (t 115)),Im 5 116]))
 (.reg [Im 106 10,I1 107 (.bin .add (t 106) (Ki 1)),Im 10 107]))))))
 (.reg [Im 117 5,Ip 118 60 [(Ks ([125]))],I1 119 (.bsl 3 [(t 118)]),I1 120 (.app false 3 32 (t 117) (t 119)),Im 5 120]))))))
 (.reg [Im 62 8,I1 63 (.bin .add (t 62) (Ki 1)),Im 8 63]))))))
 (.seq (.reg [Im 121 5,Im 4 121])
 .ret))))))
theorem fn30 : Fn Tryz.prog 30 122 [.inl 4] c30:=⟨⟨_,_,Tryz.func30,rfl,by kernel_rfl,Tryz.ntmps30,by kernel_rfl,Hq0,by kernel_rfl⟩⟩
def c47 : C :=
 (.seq (.reg [I1 4 (.mv KF)])
 (.seq (.reg [Im 5 0,Im 6 1,Ip 7 102 [(t 5),(t 6)],I1 8 (.bin .geq (t 7) (Ki 0)),Im 4 8])
 .ret))
theorem fn47 : Fn Tryz.prog 47 9 [.inl 4] c47:=⟨⟨_,_,Tryz.func47,rfl,by kernel_rfl,Tryz.ntmps47,by kernel_rfl,Hq0,by kernel_rfl⟩⟩
def c52 : C :=
 (.seq (.reg [I1 2 (.mv (Ki 0))])
 (.seq (.reg [Ip 5 106 [],Im 3 5])
 (.seq (.seq (.reg [I1 4 (.mv (Ki 0))])
 (.block 0
 (.loop
 (.seq (.seq (.reg [Im 6 4,Im 7 3,Iz 8 7,I1 9 (.bin .lss (t 6) (t 8))])
 (.cond (t 9)
 .skip
 (.exit 0)))
 (.seq (.block 1
 (.seq (.reg [Im 12 3,Im 13 4,I1 14 (.iaddr 1 (t 12) (t 13)),Il 15 14,Im 16 0,Ip 17 62 [(t 15),(t 16)]])
 (.cond (t 17)
 (.seq (.reg [I1 18 (.build [(.int .i64 0),(.int .i64 0),(.int .i64 0),(.int .i64 0),(.int .i64 0)] [(0,1,(Ki 0)),(1,1,(Ki 1)),(2,1,(Ki 3)),(3,1,(Ki 4)),(4,1,(Ki 5))]),Im 19 4,I1 20 (.idxa false 1 5 (t 18) (t 19)),Im 2 20])
 .ret)
 .skip)))
 (.reg [Im 10 4,I1 11 (.bin .add (t 10) (Ki 1)),Im 4 11]))))))
 (.seq (.seq (.reg [Im 21 0,I1 22 (.bin .eql (t 21) (Ks ([110,111,116])))])
 (.cond (t 22)
 (.seq (.reg [I1 2 (.mv (Ki 2))])
 .ret)
 .skip))
 (.seq (.seq (.reg [Im 23 0,I1 24 (.bin .eql (t 23) (Ks ([110,101,103])))])
 (.cond (t 24)
 (.seq (.reg [I1 2 (.mv (Ki 6))])
 .ret)
 .skip))
 (.seq (.seq (.reg [I1 25 (.bsl 1 [(Ks ([118,97,108,117,101])),(Ks ([110,111,119])),(Ks ([97,116,116,114])),(Ks ([104,97,115])),(Ks ([114,111,108,101])),(Ks ([115,105,122,101]))]),Im 26 0,Ip 27 62 [(t 25),(t 26)]])
 (.cond (t 27)
 (.seq (.reg [I1 2 (.mv (Ki 7))])
 .ret)
 .skip))
 (.seq (.reg [I1 2 (.mv (k (.int .i64 (-1))))])
 .ret)))))))
theorem fn52 : Fn Tryz.prog 52 28 [.inl 2] c52:=⟨⟨_,_,Tryz.func52,rfl,by kernel_rfl,Tryz.ntmps52,by kernel_rfl,Hq0,by kernel_rfl⟩⟩
def c53 : C :=
 (.seq (.reg [I1 1 (.box (t 0)),I1 2 (.mv KF)])
 (.seq (.seq (.reg [Ia 4 4 1,Ip 5 107 [(t 4)],I1 6 (.un .not (t 5))])
 (.cond (t 6)
 (.seq (.reg [I1 2 (.mv KF)])
 .ret)
 .skip))
 (.seq (.seq (.reg [If 7 0 1,Il 8 7,I1 9 (.bin .neq (t 8) (Ki 5))])
 (.cond (t 9)
 (.seq (.reg [Ia 10 4 1,Ip 11 108 [(t 10),KF],Im 2 11])
 .ret)
 .skip))
 (.seq (.seq (.reg [I1 3 (.mv (Ki 0))])
 (.block 0
 (.loop
 (.seq (.seq (.reg [Im 12 3,If 13 3 1,Il 14 13,Iz 15 14,I1 16 (.bin .lss (t 12) (t 15))])
 (.cond (t 16)
 .skip
 (.exit 0)))
 (.seq (.block 1
 (.seq (.reg [If 19 3 1,Il 20 19,Im 21 3,I1 22 (.iaddr 4 (t 20) (t 21)),Ia 23 4 22,Ip 24 108 [(t 23),KT],I1 25 (.un .not (t 24))])
 (.cond (t 25)
 (.seq (.reg [I1 2 (.mv KF)])
 .ret)
 .skip)))
 (.reg [Im 17 3,I1 18 (.bin .add (t 17) (Ki 1)),Im 3 18]))))))
 (.seq (.reg [If 26 3 1,Il 27 26,Iz 28 27,I1 29 (.bin .gtr (t 28) (Ki 0)),Im 2 29])
 .ret)))))
theorem fn53 : Fn Tryz.prog 53 30 [.inl 2] c53:=⟨⟨_,_,Tryz.func53,rfl,by kernel_rfl,Tryz.ntmps53,by kernel_rfl,Hq0,by kernel_rfl⟩⟩
def c55 : C :=
 (.seq (.reg [I1 2 (.mv KF)])
 (.seq (.reg [I1 3 (.bsl 1 [(Ks ([115,117,98,106,101,99,116])),(Ks ([114,101,115,111,117,114,99,101])),(Ks ([97,99,116,105,111,110])),(Ks ([101,110,118]))]),Im 4 0,Ip 5 62 [(t 3),(t 4)],Im 2 5])
 .ret))
theorem fn55 : Fn Tryz.prog 55 6 [.inl 2] c55:=⟨⟨_,_,Tryz.func55,rfl,by kernel_rfl,Tryz.ntmps55,by kernel_rfl,Hq0,by kernel_rfl⟩⟩
def c107 : C :=
 (.seq (.reg [I1 1 (.box (t 0)),I1 2 (.mv KF)])
 (.seq (.seq (.reg [If 4 0 1,Il 5 4,I1 6 (.bin .neq (t 5) (Ki 5))])
 (.cond (t 6)
 (.seq (.reg [Ia 7 4 1,Ip 8 171 [(t 7)],Im 2 8])
 .ret)
 .skip))
 (.seq (.seq (.reg [If 9 1 1,Il 10 9,I1 11 (.bin .neq (t 10) (Ki 0)),Im 12 11,Jf 13 12 false 2 1,Jl 14 12 false 13,I3 15 12 (.bin .neq (t 14) (Ks ([]))),I1 16 (.pick (t 12) KT (t 15)),Im 17 16,Jf 18 17 false 3 1,Jl 19 17 false 18,I3 20 17 (.len (t 19)),I3 21 17 (.bin .gtr (t 20) (Ki 16)),I1 22 (.pick (t 17) KT (t 21))])
 (.cond (t 22)
 (.seq (.reg [I1 2 (.mv KF)])
 .ret)
 .skip))
 (.seq (.seq (.reg [I1 3 (.mv (Ki 0))])
 (.block 0
 (.loop
 (.seq (.seq (.reg [Im 23 3,If 24 3 1,Il 25 24,Iz 26 25,I1 27 (.bin .lss (t 23) (t 26))])
 (.cond (t 27)
 .skip
 (.exit 0)))
 (.seq (.block 1
 (.seq (.draw 0 [(If 30 3 1,[]),(Il 31 30,[]),(Im 32 3,[]),(I1 33 (.iaddr 4 (t 31) (t 32)),[]),(Ia 34 4 33,[]),(Ip 35 171 [(t 34)],[]),(I1 36 (.un .not (t 35)),[]),(Im 37 36,[]),(Jf 38 37 false 3 1,[]),(Jl 39 37 false 38,[]),(Jm 40 37 false 3,[]),(I3 41 37 (.iaddr 4 (t 39) (t 40)),[]),(Jf 42 37 false 0 41,[]),(Jl 43 37 false 42,[]),(I3 44 37 (.bin .eql (t 43) (Ki 0)),[]),(I1 45 (.pick (t 37) KT (t 44)),[]),(Im 46 45,[]),(Jf 47 46 false 3 1,[]),(Jl 48 46 false 47,[]),(Jm 49 46 false 3,[]),(I3 50 46 (.iaddr 4 (t 48) (t 49)),[]),(Jf 51 46 false 0 50,[]),(Jl 52 46 false 51,[]),(Jf 53 46 false 3 1,[]),(Jl 54 46 false 53,[]),(I3 55 46 (.iaddr 4 (t 54) (Ki 0)),[]),(Jf 56 46 false 0 55,[]),(Jl 57 46 false 56,[]),(I3 58 46 (.bin .neq (t 52) (t 57)),[]),(I1 59 (.pick (t 46) KT (t 58)),[]),(Im 60 59,[]),(Jm 61 60 false 3,[]),(I3 62 60 (.bin .gtr (t 61) (Ki 0)),[]),(Jm 63 60 false 62,[]),(Jf 64 63 true 3 1,[]),(Jl 65 63 true 64,[]),(Jm 66 63 true 3,[]),(I2 67 63 (.bin .sub (t 66) (Ki 1)),[]),(I2 68 63 (.iaddr 4 (t 65) (t 67)),[]),(I2 69 63 (.load true 4 (t 68)),[]),(Jf 70 63 true 3 1,[]),(Jl 71 63 true 70,[]),(Jm 72 63 true 3,[]),(I2 73 63 (.iaddr 4 (t 71) (t 72)),[]),(I2 74 63 (.load true 4 (t 73)),[]),(I2 75 63 (.pcall (Kf 172) [(t 69),(t 74)]),[]),(I2 76 63 (.bin .geq (t 75) (Ki 0)),[]),(I3 77 60 (.pick (t 63) (t 76) KF),[]),(I1 78 (.pick (t 60) KT (t 77)),[])])
 (.cond (t 78)
 (.seq (.reg [I1 2 (.mv KF)])
 .ret)
 .skip)))
 (.reg [Im 28 3,I1 29 (.bin .add (t 28) (Ki 1)),Im 3 29]))))))
 (.seq (.reg [I1 2 (.mv KT)])
 .ret)))))
theorem fn107 : Fn Tryz.prog 107 79 [.inl 2] c107:=⟨⟨_,_,Tryz.func107,rfl,by kernel_rfl,Tryz.ntmps107,by kernel_rfl,Hq0,by kernel_rfl⟩⟩
def c144 : C :=
 (.seq (.reg [I1 6 (.mv (Ki 0))])
 (.seq (.reg [Im 8 1,Im 7 8])
 (.seq (.block 0
 (.loop
 (.seq (.seq (.reg [Im 9 7,Im 10 0,I1 11 (.lens (t 10)),I1 12 (.bin .lss (t 9) (t 11)),Im 13 12,Jm 14 13 true 2,Jm 15 13 true 0,Jm 16 13 true 7,I2 17 13 (.idxs (t 15) (t 16)),I2 18 13 (.pcall (t 14) [(t 17)]),I1 19 (.pick (t 13) (t 18) KF)])
 (.cond (t 19)
 .skip
 (.exit 0)))
 (.block 1
 (.reg [Im 20 7,I1 21 (.bin .add (t 20) (Ki 1)),Im 7 21])))))
 (.seq (.reg [Im 22 7,Im 23 1,I1 24 (.bin .sub (t 22) (t 23)),Im 6 24])
 .ret))))
theorem fn144 : Fn Tryz.prog 144 25 [.inl 6] c144:=⟨⟨_,_,Tryz.func144,rfl,by kernel_rfl,Tryz.ntmps144,by kernel_rfl,Hq0,by kernel_rfl⟩⟩
def c151 : C :=
 (.seq (.reg [I1 0 (.mv KN)])
 (.seq (.reg [I1 1 (.bsl 1 [(Ks ([61,61])),(Ks ([33,61])),(Ks ([60,61])),(Ks ([62,61])),(Ks ([123])),(Ks ([125])),(Ks ([40])),(Ks ([41])),(Ks ([91])),(Ks ([93])),(Ks ([59])),(Ks ([46])),(Ks ([44])),(Ks ([43])),(Ks ([45])),(Ks ([42])),(Ks ([60])),(Ks ([62]))]),Im 0 1])
 .ret))
theorem fn151 : Fn Tryz.prog 151 2 [.inl 0] c151:=⟨⟨_,_,Tryz.func151,rfl,by kernel_rfl,Tryz.ntmps151,by kernel_rfl,Hq0,by kernel_rfl⟩⟩
def c236 : C :=
 (.seq (.reg [I1 2 (.alloc [(.str []),(.int .i64 0),(.int .i64 0),(.str []),.nils,(.str []),(.str []),.nils])])
 (.seq (.seq (.reg [Im 3 0,Ic 4 69 [(t 3),(Ks ([45]))]])
 (.cond (t 4)
 (.seq (.reg [Im 5 0,Ic 6 236 [(t 5)],I1 7 (.bsl 8 [(t 6)]),I1 8 (.build [(.str []),(.int .i64 0),(.int .i64 0),(.str []),.nils,(.str []),(.str []),.nils] [(0,1,(Ks ([110,101,103]))),(7,1,(t 7))]),Is 8 2 8])
 .ret)
 .skip))
 (.seq (.reg [Im 9 0,Ic 10 238 [(t 9)],Is 8 2 10])
 .ret)))
theorem fn236 : Fn Tryz.prog 236 11 [.inr (2,true,8)] c236:=⟨⟨_,_,Tryz.func236,rfl,by kernel_rfl,Tryz.ntmps236,by kernel_rfl,Hq0,by kernel_rfl⟩⟩
def c245 : C :=
 (.seq (.reg [I1 2 (.alloc [(.int .i64 0),(.int .i64 0),(.str []),.nils])])
 (.seq (.seq (.reg [Im 5 0,Ic 6 69 [(t 5),(Ks ([45]))]])
 (.cond (t 6)
 (.seq (.reg [Im 7 0,Ic 8 120 [(t 7),(Ki 2)],I1 9 (.field false 2 1 (t 8)),I1 10 (.un .neg (t 9)),Ip 11 242 [(t 10)],Is 4 2 11])
 .ret)
 .skip))
 (.seq (.reg [Im 13 0,Ic 14 239 [(t 13)],Im 12 14,Ie 15 0 12,Ie 16 1 12,I1 3 (.alloc [(.int .i64 0),(.int .i64 0),(.str []),.nils]),Is 4 3 15,Im 4 16])
 (.seq (.seq (.reg [Im 17 4,I1 18 (.un .not (t 17))])
 (.cond (t 18)
 (.reg [Im 19 0,Im 20 0,In 21 20,If 22 1 21,Il 23 22,Ic 24 105 [(t 19),(t 23),(Ki 2)]])
 .skip))
 (.seq (.reg [Ia 25 4 3,Is 4 2 25])
 .ret)))))
theorem fn245 : Fn Tryz.prog 245 26 [.inr (2,true,4)] c245:=⟨⟨_,_,Tryz.func245,rfl,by kernel_rfl,Tryz.ntmps245,by kernel_rfl,Hq0,by kernel_rfl⟩⟩
def c246 : C :=
 (.seq (.reg [I1 2 (.alloc [(.int .i64 0),(.int .i64 0),(.str []),.nils]),I1 3 (.mv (Ki 0))])
 (.seq (.seq (.reg [Im 9 0,Iz 10 9,I1 11 (.mv (Ki 0))])
 (.block 0
 (.loop
 (.seq (.reg [I1 12 (.bin .lss (t 11) (t 10))])
 (.seq (.cond (t 12)
 .skip
 (.exit 0))
 (.seq (.block 1
 (.seq (.reg [I1 13 (.iaddr 4 (t 9) (t 11)),Ia 14 4 13,I1 5 (.alloc [(.int .i64 0),(.int .i64 0),(.str []),.nils]),Is 4 5 14])
 (.seq (.reg [Ia 15 4 5,Ip 16 129 [(t 15)],I1 17 (.un .not (t 16))])
 (.cond (t 17)
 (.seq (.reg [I1 18 (.build [(.int .i64 0),(.int .i64 0),(.str []),.nils] []),Is 4 2 18,I1 3 (.mv (Ki 1))])
 .ret)
 .skip))))
 (.reg [I1 19 (.bin .add (t 11) (Ki 1)),Im 11 19])))))))
 (.seq (.seq (.reg [Im 20 0,Iz 21 20,I1 22 (.mv (Ki 0))])
 (.block 2
 (.loop
 (.seq (.reg [I1 23 (.bin .lss (t 22) (t 21))])
 (.seq (.cond (t 23)
 .skip
 (.exit 2))
 (.seq (.block 3
 (.seq (.reg [I1 24 (.iaddr 4 (t 20) (t 22)),Ia 25 4 24,I1 7 (.alloc [(.int .i64 0),(.int .i64 0),(.str []),.nils]),Is 4 7 25])
 (.seq (.draw 0 [(If 26 0 7,[]),(Il 27 26,[]),(I1 28 (.bin .eql (t 27) (Ki 0)),[]),(Im 29 28,[]),(Jf 30 29 false 0 7,[]),(Jl 31 29 false 30,[]),(I3 32 29 (.bin .eql (t 31) (Ki 5)),[]),(I1 33 (.pick (t 29) KT (t 32)),[]),(Im 34 33,[]),(Jf 35 34 false 0 7,[]),(Jl 36 34 false 35,[]),(Jm 37 34 false 0,[]),(I3 38 34 (.iaddr 4 (t 37) (Ki 0)),[]),(Jf 39 34 false 0 38,[]),(Jl 40 34 false 39,[]),(I3 41 34 (.bin .neq (t 36) (t 40)),[]),(I1 42 (.pick (t 34) KT (t 41)),[])])
 (.cond (t 42)
 (.seq (.reg [I1 43 (.build [(.int .i64 0),(.int .i64 0),(.str []),.nils] []),Is 4 2 43,I1 3 (.mv (Ki 6))])
 .ret)
 .skip))))
 (.reg [I1 44 (.bin .add (t 22) (Ki 1)),Im 22 44])))))))
 (.seq (.reg [Im 45 0,Ic 46 247 [(t 45)],Im 8 46])
 (.seq (.reg [Im 47 8,Ic 48 248 [(t 47),(Kf 64)]])
 (.seq (.reg [Im 49 8,Ic 50 249 [(t 49),(Kf 250)],Im 8 50])
 (.seq (.seq (.reg [Im 51 8,Iz 52 51,I1 53 (.bin .gtr (t 52) (Ki 16))])
 (.cond (t 53)
 (.seq (.reg [I1 54 (.build [(.int .i64 0),(.int .i64 0),(.str []),.nils] []),Is 4 2 54,I1 3 (.mv (Ki 13))])
 .ret)
 .skip))
 (.seq (.reg [Im 55 8,I1 56 (.build [(.int .i64 0),(.int .i64 0),(.str []),.nils] [(0,1,(Ki 5)),(3,1,(t 55))]),Is 4 2 56,I1 3 (.mv (Ki 0))])
 .ret))))))))
theorem fn246 : Fn Tryz.prog 246 57 [.inr (2,true,4),.inl 3] c246:=⟨⟨_,_,Tryz.func246,rfl,by kernel_rfl,Tryz.ntmps246,by kernel_rfl,Hq1,by kernel_rfl⟩⟩
def c248 : C :=
 (.seq (.reg [Im 5 0,Iz 6 5,Im 4 6])
 (.reg [Im 7 0,Im 8 4,Im 9 4,I1 10 (.conv .u64 (t 9)),Ip 11 252 [(t 10)],Im 12 1,Ip 13 251 [(t 7),(Ki 0),(t 8),(t 11),(t 12)]]))
theorem fn248 : Fn Tryz.prog 248 14 [] c248:=⟨⟨_,_,Tryz.func248,rfl,by kernel_rfl,Tryz.ntmps248,by kernel_rfl,Hq0,by kernel_rfl⟩⟩
def c250 : C :=
 (.seq (.reg [I1 2 (.box (t 0)),I1 3 (.box (t 1)),I1 4 (.mv KF)])
 (.seq (.reg [Ia 5 4 2,Ia 6 4 3,Ip 7 64 [(t 5),(t 6)],I1 8 (.bin .eql (t 7) (Ki 0)),Im 4 8])
 .ret))
theorem fn250 : Fn Tryz.prog 250 9 [.inl 4] c250:=⟨⟨_,_,Tryz.func250,rfl,by kernel_rfl,Tryz.ntmps250,by kernel_rfl,Hq0,by kernel_rfl⟩⟩
end GP
namespace GP
open Go Go.Proofs
open Rd O
set_option maxRecDepth 100000
def c8 : C :=
 (.seq (.reg [I1 3 (.box (t 0)),I1 4 (.box (t 1)),I1 6 (.mv KF)])
 (.seq (.seq (.reg [Ip 13 18 [],I1 14 (.un .not (t 13)),Im 15 14,I3 16 15 (.load true 3 (t 3)),I3 17 15 (.pcall (Kf 28) [(t 16)]),I3 18 15 (.un .not (t 17)),I1 19 (.pick (t 15) KT (t 18)),Im 20 19,I3 21 20 (.load true 3 (t 3)),I3 22 20 (.pcall (Kf 29) [(t 21)]),I3 23 20 (.un .not (t 22)),I1 24 (.pick (t 20) KT (t 23)),Im 25 24,Jf 26 25 false 1 4,Jl 27 25 false 26,I3 28 25 (.lens (t 27)),I3 29 25 (.bin .gtr (t 28) (Ki 100)),I1 30 (.pick (t 25) KT (t 29))])
 (.cond (t 30)
 (.seq (.reg [Ip 31 18 [],Im 6 31])
 .ret)
 .skip))
 (.seq (.reg [Ia 32 3 3,Ip 33 30 [(t 32),KF],Im 7 33])
 (.seq (.reg [Im 34 2,I1 35 (.conv .i64 (t 34)),Im 36 7,Iz 37 36,I1 38 (.bin .rem (t 35) (t 37)),Im 8 38])
 (.seq (.reg [I1 9 (.mv KN)])
 (.seq (.reg [Im 39 9,Im 40 7,Im 41 8,I1 42 (.sls 3 (t 40) none (some (t 41))),I1 43 (.app false 3 32 (t 39) (t 42)),Im 9 43])
 (.seq (.seq (.reg [If 44 0 4,Il 45 44,I1 46 (.bin .neq (t 45) (Ki 0))])
 (.cond (t 46)
 (.reg [Im 47 9,Ia 48 3 4,I1 49 (.bsl 3 [(t 48)]),I1 50 (.app false 3 32 (t 47) (t 49)),Im 9 50])
 .skip))
 (.seq (.reg [Im 51 9,Im 52 7,Im 53 8,I1 54 (.bin .add (t 53) (Ki 1)),I1 55 (.sls 3 (t 52) (some (t 54)) none),I1 56 (.app false 3 32 (t 51) (t 55)),Im 9 56])
 (.seq (.reg [Im 58 9,Ip 59 31 [(t 58)],Im 57 59,Ie 60 0 57,Ie 61 1 57,Ie 62 2 57,I1 10 (.alloc [.nils,(.str []),.nils]),Is 3 10 60,Im 11 61,Im 12 62])
 (.seq (.seq (.reg [Im 63 9,Iz 64 63,I1 65 (.bin .gtr (t 64) (Ki 600))])
 (.cond (t 65)
 (.seq (.reg [Im 66 12,I1 67 (.bin .eql (t 66) (Ki 13)),Im 68 67,Jm 69 68 true 11,I2 70 68 (.bin .eql (t 69) (Ki 0)),I1 71 (.pick (t 68) (t 70) KF),Im 6 71])
 .ret)
 .skip))
 (.seq (.seq (.reg [Im 72 12,I1 73 (.bin .neq (t 72) (Ki 0))])
 (.cond (t 73)
 (.seq (.reg [Im 74 12,I1 75 (.bin .eql (t 74) (Ki 2)),Im 76 75,Jm 77 76 false 12,I3 78 76 (.bin .eql (t 77) (Ki 11)),I1 79 (.pick (t 76) KT (t 78)),Im 80 79,Jm 81 80 true 11,I2 82 80 (.bin .geq (t 81) (Ki 0)),I1 83 (.pick (t 80) (t 82) KF),Im 84 83,Jm 85 84 true 11,Jm 86 84 true 9,I2 87 84 (.len (t 86)),I2 88 84 (.bin .leq (t 85) (t 87)),I1 89 (.pick (t 84) (t 88) KF),Im 90 89,I2 91 90 (.load true 3 (t 10)),I2 92 90 (.build [.nils,(.str []),.nils] []),I2 93 90 (.pcall (Kf 32) [(t 91),(t 92)]),I1 94 (.pick (t 90) (t 93) KF),Im 6 94])
 .ret)
 .skip))
 (.seq (.reg [Im 95 11,I1 96 (.bin .eql (t 95) (Ki 0)),Im 97 96,I2 98 97 (.load true 3 (t 10)),I2 99 97 (.pcall (Kf 29) [(t 98)]),I1 100 (.pick (t 97) (t 99) KF),Im 6 100])
 .ret))))))))))))
theorem fn8 : Fn Tryz.prog 8 101 [.inl 6] c8:=⟨⟨_,_,Tryz.func8,rfl,by kernel_rfl,Tryz.ntmps8,by kernel_rfl,Hq0,by kernel_rfl⟩⟩
def c17 : C :=
 (.seq (.reg [I1 2 (.mv KF)])
 (.seq (.reg [Ip 3 48 [],Im 4 0,Ip 5 47 [(t 3),(t 4)],Im 2 5])
 .ret))
theorem fn17 : Fn Tryz.prog 17 6 [.inl 2] c17:=⟨⟨_,_,Tryz.func17,rfl,by kernel_rfl,Tryz.ntmps17,by kernel_rfl,Hq0,by kernel_rfl⟩⟩
def c26 : C :=
 (.seq (.reg [I1 1 (.box (t 0)),I1 2 (.mv (Ki 0))])
 (.seq (.reg [I1 3 (.mv (Ki 0))])
 (.seq (.seq (.reg [If 6 7 1,Il 7 6,Iz 8 7,I1 9 (.mv (Ki 0))])
 (.block 0
 (.loop
 (.seq (.reg [I1 10 (.bin .lss (t 9) (t 8))])
 (.seq (.cond (t 10)
 .skip
 (.exit 0))
 (.seq (.block 1
 (.seq (.reg [I1 11 (.iaddr 8 (t 7) (t 9)),Ia 12 8 11,I1 5 (.alloc [(.str []),(.int .i64 0),(.int .i64 0),(.str []),.nils,(.str []),(.str []),.nils]),Is 8 5 12])
 (.reg [Im 13 3,Ia 14 8 5,Ip 15 26 [(t 14)],I1 16 (.mx (t 13) (t 15)),Im 3 16])))
 (.reg [I1 17 (.bin .add (t 9) (Ki 1)),Im 9 17])))))))
 (.seq (.reg [Im 18 3,I1 19 (.bin .add (t 18) (Ki 1)),Im 2 19])
 .ret))))
theorem fn26 : Fn Tryz.prog 26 20 [.inl 2] c26:=⟨⟨_,_,Tryz.func26,rfl,by kernel_rfl,Tryz.ntmps26,by kernel_rfl,Hq0,by kernel_rfl⟩⟩
def c29 : C :=
 (.seq (.reg [I1 1 (.box (t 0)),I1 2 (.mv KF)])
 (.seq (.seq (.reg [If 9 1 1,Il 10 9,Ip 11 59 [(t 10)],Ip 12 57 [(t 11)],I1 13 (.un .not (t 12))])
 (.cond (t 13)
 (.seq (.reg [I1 2 (.mv KF)])
 .ret)
 .skip))
 (.seq (.seq (.reg [I1 3 (.mv (Ki 0))])
 (.block 0
 (.loop
 (.seq (.seq (.reg [Im 14 3,If 15 0 1,Il 16 15,Iz 17 16,I1 18 (.bin .lss (t 14) (t 17))])
 (.cond (t 18)
 .skip
 (.exit 0)))
 (.seq (.block 1
 (.seq (.reg [If 21 0 1,Il 22 21,Im 23 3,I1 24 (.iaddr 4 (t 22) (t 23)),Ia 25 4 24,I1 4 (.alloc [(.str []),(.str []),(.int .i64 0),(.bool false)]),Is 4 4 25])
 (.seq (.reg [If 26 0 4,Il 27 26,Ip 28 55 [(t 27)],I1 29 (.un .not (t 28)),Im 30 29,Jf 31 30 false 1 4,Jl 32 30 false 31,I3 33 30 (.pcall (Kf 56) [(t 32)]),I3 34 30 (.un .not (t 33)),I1 35 (.pick (t 30) KT (t 34)),Im 36 35,Jf 37 36 false 2 4,Jl 38 36 false 37,I3 39 36 (.bin .lss (t 38) (Ki 1)),I1 40 (.pick (t 36) KT (t 39)),Im 41 40,Jf 42 41 false 2 4,Jl 43 41 false 42,I3 44 41 (.bin .gtr (t 43) (Ki 4)),I1 45 (.pick (t 41) KT (t 44))])
 (.cond (t 45)
 (.seq (.reg [I1 2 (.mv KF)])
 .ret)
 .skip))))
 (.reg [Im 19 3,I1 20 (.bin .add (t 19) (Ki 1)),Im 3 20]))))))
 (.seq (.seq (.reg [I1 5 (.mv (Ki 0))])
 (.block 2
 (.loop
 (.seq (.seq (.reg [Im 46 5,If 47 2 1,Il 48 47,Iz 49 48,I1 50 (.bin .lss (t 46) (t 49))])
 (.cond (t 50)
 .skip
 (.exit 2)))
 (.seq (.block 3
 (.seq (.reg [If 53 2 1,Il 54 53,Im 55 5,I1 56 (.iaddr 13 (t 54) (t 55)),Ia 57 13 56,I1 6 (.alloc [(.str []),(.str []),(.str []),(.bool false),(.str []),(.int .i64 0),(.int .i64 0),(.str []),.nils,(.str []),(.str []),.nils,.nils]),Is 13 6 57])
 (.seq (.seq (.reg [If 58 0 6,Il 59 58,Ip 60 56 [(t 59)],I1 61 (.un .not (t 60)),Im 62 61,Jf 63 62 false 1 6,Jl 64 62 false 63,I3 65 62 (.pcall (Kf 56) [(t 64)]),I3 66 62 (.un .not (t 65)),I1 67 (.pick (t 62) KT (t 66)),Im 68 67,Jf 69 68 false 2 6,Jl 70 68 false 69,I3 71 68 (.pcall (Kf 59) [(t 70)]),I3 72 68 (.pcall (Kf 57) [(t 71)]),I3 73 68 (.un .not (t 72)),I1 74 (.pick (t 68) KT (t 73)),Im 75 74,Jf 76 75 false 3 6,Jl 77 75 false 76,Jf 78 75 false 4 6,I3 79 75 (.load true 8 (t 78)),I3 80 75 (.pcall (Kf 66) [(t 77),(t 79)]),I3 81 75 (.un .not (t 80)),I1 82 (.pick (t 75) KT (t 81))])
 (.cond (t 82)
 (.seq (.reg [I1 2 (.mv KF)])
 .ret)
 .skip))
 (.seq (.reg [I1 7 (.mv (Ki 0))])
 (.block 4
 (.loop
 (.seq (.seq (.reg [Im 83 7,If 84 12 6,Il 85 84,Iz 86 85,I1 87 (.bin .lss (t 83) (t 86))])
 (.cond (t 87)
 .skip
 (.exit 4)))
 (.seq (.block 5
 (.seq (.reg [If 90 12 6,Il 91 90,Im 92 7,I1 93 (.iaddr 13 (t 91) (t 92)),Ia 94 13 93,I1 8 (.alloc [(.bool false),(.str []),(.bool false),(.str []),(.int .i64 0),(.int .i64 0),(.str []),.nils,(.str []),(.str []),.nils,.nils,.nils]),Is 13 8 94])
 (.seq (.reg [If 95 1 8,Il 96 95,Ip 97 56 [(t 96)],I1 98 (.un .not (t 97)),Im 99 98,Jf 100 99 false 2 8,Jl 101 99 false 100,Jf 102 99 false 3 8,I3 103 99 (.load true 8 (t 102)),I3 104 99 (.pcall (Kf 66) [(t 101),(t 103)]),I3 105 99 (.un .not (t 104)),I1 106 (.pick (t 99) KT (t 105)),Im 107 106,Jf 108 107 false 11 8,Jl 109 107 false 108,I3 110 107 (.pcall (Kf 67) [(t 109)]),I3 111 107 (.un .not (t 110)),I1 112 (.pick (t 107) KT (t 111)),Im 113 112,Jf 114 113 false 12 8,Jl 115 113 false 114,I3 116 113 (.pcall (Kf 67) [(t 115)]),I3 117 113 (.un .not (t 116)),I1 118 (.pick (t 113) KT (t 117))])
 (.cond (t 118)
 (.seq (.reg [I1 2 (.mv KF)])
 .ret)
 .skip))))
 (.reg [Im 88 7,I1 89 (.bin .add (t 88) (Ki 1)),Im 7 89])))))))))
 (.reg [Im 51 5,I1 52 (.bin .add (t 51) (Ki 1)),Im 5 52]))))))
 (.seq (.reg [I1 2 (.mv KT)])
 .ret)))))
theorem fn29 : Fn Tryz.prog 29 119 [.inl 2] c29:=⟨⟨_,_,Tryz.func29,rfl,by kernel_rfl,Tryz.ntmps29,by kernel_rfl,Hq0,by kernel_rfl⟩⟩
def c59 : C :=
 (.seq (.reg [I1 2 (.alloc [(.int .i64 0),(.str []),(.int .i64 0)])])
 (.seq (.reg [Im 3 0,I1 4 (.build [(.int .i64 0),(.str []),(.int .i64 0)] [(0,1,(Ki 1)),(1,1,(t 3))]),Is 3 2 4])
 .ret))
theorem fn59 : Fn Tryz.prog 59 5 [.inr (2,true,3)] c59:=⟨⟨_,_,Tryz.func59,rfl,by kernel_rfl,Tryz.ntmps59,by kernel_rfl,Hq0,by kernel_rfl⟩⟩
def c66 : C :=
 (.seq (.reg [I1 3 (.box (t 1)),I1 4 (.mv KF)])
 (.seq (.seq (.reg [Im 5 0,I1 6 (.un .not (t 5))])
 (.cond (t 6)
 (.seq (.reg [Ia 7 8 3,I1 8 (.build [(.str []),(.int .i64 0),(.int .i64 0),(.str []),.nils,(.str []),(.str []),.nils] []),Ip 9 20 [(t 7),(t 8)],Im 4 9])
 .ret)
 .skip))
 (.seq (.reg [Ia 10 8 3,Ip 11 21 [(t 10)],Im 12 11,I2 13 12 (.load true 8 (t 3)),I2 14 12 (.pcall (Kf 22) [(t 13)]),I2 15 12 (.bin .leq (t 14) (Ki 12)),I1 16 (.pick (t 12) (t 15) KF),Im 4 16])
 .ret)))
theorem fn66 : Fn Tryz.prog 66 17 [.inl 4] c66:=⟨⟨_,_,Tryz.func66,rfl,by kernel_rfl,Tryz.ntmps66,by kernel_rfl,Hq0,by kernel_rfl⟩⟩
def c71 : C :=
 (.seq (.reg [Im 4 0,Im 5 1,Ic 6 69 [(t 4),(t 5)],I1 7 (.un .not (t 6))])
 (.cond (t 7)
 (.reg [Im 8 0,Im 9 0,In 10 9,If 11 1 10,Il 12 11,Ic 13 105 [(t 8),(t 12),(Ki 2)]])
 .skip))
theorem fn71 : Fn Tryz.prog 71 14 [] c71:=⟨⟨_,_,Tryz.func71,rfl,by kernel_rfl,Tryz.ntmps71,by kernel_rfl,Hq0,by kernel_rfl⟩⟩
def c91 : C :=
 (.seq (.reg [I1 4 (.mv (Ki 0))])
 (.seq (.block 0
 (.loop
 (.seq (.seq (.reg [Im 5 1,Im 6 0,I1 7 (.lens (t 6)),I1 8 (.bin .lss (t 5) (t 7))])
 (.cond (t 8)
 .skip
 (.exit 0)))
 (.block 1
 (.seq (.reg [Im 9 0,Im 10 1,I1 11 (.idxs (t 9) (t 10))])
 (.block 2
 (.seq (.seq (.reg [I1 14 (.bin .eql (t 11) (k (.int .u8 32))),Im 13 14])
 (.cond (t 13)
 .skip
 (.reg [I1 15 (.bin .eql (t 11) (k (.int .u8 10))),Im 13 15])))
 (.cond (t 13)
 (.reg [Im 16 1,I1 17 (.bin .add (t 16) (Ki 1)),Im 1 17])
 (.seq (.reg [I1 19 (.bin .eql (t 11) (k (.int .u8 35))),Im 18 19])
 (.cond (t 18)
 (.reg [Im 20 1,Im 21 0,Im 22 1,Ip 23 144 [(t 21),(t 22),(Kf 145)],I1 24 (.bin .add (t 20) (t 23)),Im 1 24])
 (.seq (.reg [Im 12 1,Im 4 12])
 .ret)))))))))))
 (.seq (.reg [Im 25 1,Im 4 25])
 .ret)))
theorem fn91 : Fn Tryz.prog 91 26 [.inl 4] c91:=⟨⟨_,_,Tryz.func91,rfl,by kernel_rfl,Tryz.ntmps91,by kernel_rfl,Hq0,by kernel_rfl⟩⟩
def c150 : C :=
 (.seq (.reg [I1 4 (.mv (Ks ([]))),I1 5 (.mv (Ki 0))])
 (.seq (.reg [I1 6 (.mv KN)])
 (.seq (.seq (.reg [Im 9 1,I1 10 (.bin .add (t 9) (Ki 1)),Im 7 10])
 (.block 0
 (.loop
 (.seq (.seq (.reg [Im 11 7,Im 12 0,I1 13 (.lens (t 12)),I1 14 (.bin .lss (t 11) (t 13))])
 (.cond (t 14)
 .skip
 (.exit 0)))
 (.seq (.block 1
 (.seq (.reg [Im 17 0,Im 18 7,I1 19 (.idxs (t 17) (t 18)),Im 8 19])
 (.seq (.block 2
 (.seq (.reg [Im 21 8,I1 22 (.bin .eql (t 21) (k (.int .u8 34))),Im 20 22])
 (.cond (t 20)
 (.seq (.reg [Im 23 6,I1 24 (.b2s (t 23)),Im 25 7,I1 26 (.bin .add (t 25) (Ki 1)),Im 27 1,I1 28 (.bin .sub (t 26) (t 27)),Im 4 24,Im 5 28])
 .ret)
 (.seq (.reg [Im 30 8,I1 31 (.bin .eql (t 30) (k (.int .u8 92))),Im 29 31])
 (.cond (t 29)
 (.seq (.reg [Im 32 7,I1 33 (.bin .add (t 32) (Ki 1)),Im 7 33])
 (.seq (.seq (.reg [Im 34 7,Im 35 0,I1 36 (.lens (t 35)),I1 37 (.bin .eql (t 34) (t 36)),Im 38 37,Jm 39 38 false 0,Jm 40 38 false 7,I3 41 38 (.idxs (t 39) (t 40)),I3 42 38 (.bin .neq (t 41) (k (.int .u8 34))),Jm 43 38 false 42,Jm 44 43 true 0,Jm 45 43 true 7,I2 46 43 (.idxs (t 44) (t 45)),I2 47 43 (.bin .neq (t 46) (k (.int .u8 92))),I3 48 38 (.pick (t 43) (t 47) KF),I1 49 (.pick (t 38) KT (t 48))])
 (.cond (t 49)
 (.seq (.reg [I1 4 (.mv (Ks ([]))),I1 5 (.mv (Ki 0))])
 .ret)
 .skip))
 (.reg [Im 50 0,Im 51 7,I1 52 (.idxs (t 50) (t 51)),Im 8 52])))
 (.seq (.reg [Im 54 8,I1 55 (.bin .lss (t 54) (k (.int .u8 32))),Im 56 55,Jm 57 56 false 8,I3 58 56 (.bin .gtr (t 57) (k (.int .u8 126))),I1 59 (.pick (t 56) KT (t 58)),Im 53 59])
 (.cond (t 53)
 (.seq (.reg [I1 4 (.mv (Ks ([]))),I1 5 (.mv (Ki 0))])
 .ret)
 .skip)))))))
 (.seq (.reg [Im 60 6,Im 61 8,I1 62 (.bsl 1 [(t 61)]),I1 63 (.app false 1 1 (t 60) (t 62)),Im 6 63])
 (.seq (.reg [Im 64 6,Iz 65 64,I1 66 (.bin .gtr (t 65) (Ki 64))])
 (.cond (t 66)
 (.seq (.reg [I1 4 (.mv (Ks ([]))),I1 5 (.mv (Ki 0))])
 .ret)
 .skip))))))
 (.reg [Im 15 7,I1 16 (.bin .add (t 15) (Ki 1)),Im 7 16]))))))
 (.seq (.reg [I1 4 (.mv (Ks ([]))),I1 5 (.mv (Ki 0))])
 .ret))))
theorem fn150 : Fn Tryz.prog 150 67 [.inl 4,.inl 5] c150:=⟨⟨_,_,Tryz.func150,rfl,by kernel_rfl,Tryz.ntmps150,by kernel_rfl,Hq0,by kernel_rfl⟩⟩
def c162 : C :=
 (.seq (.reg [I1 2 (.mv KF)])
 (.seq (.reg [Im 3 0,I1 4 (.bin .geq (t 3) (k (.int .u8 97))),Im 5 4,Jm 6 5 true 0,I2 7 5 (.bin .leq (t 6) (k (.int .u8 122))),I1 8 (.pick (t 5) (t 7) KF),Im 2 8])
 .ret))
theorem fn162 : Fn Tryz.prog 162 9 [.inl 2] c162:=⟨⟨_,_,Tryz.func162,rfl,by kernel_rfl,Tryz.ntmps162,by kernel_rfl,Hq0,by kernel_rfl⟩⟩
def c166 : C :=
 (.seq (.reg [I1 1 (.box (t 0)),I1 2 (.mv KF)])
 (.seq (.seq (.reg [If 3 0 1,Il 4 3])
 (.block 0
 (.seq (.reg [I1 6 (.bin .eql (t 4) (Ki 1)),Im 5 6])
 (.cond (t 5)
 (.seq (.draw 0 [(If 7 2 1,[]),(Il 8 7,[]),(I1 9 (.bin .eql (t 8) (Ki 0)),[]),(Im 10 9,[]),(Jf 11 10 true 1 1,[]),(Jl 12 10 true 11,[]),(I2 13 10 (.lens (t 12)),[]),(I2 14 10 (.bin .geq (t 13) (Ki 1)),[]),(I1 15 (.pick (t 10) (t 14) KF),[]),(Im 16 15,[]),(Jf 17 16 true 1 1,[]),(Jl 18 16 true 17,[]),(I2 19 16 (.lens (t 18)),[]),(I2 20 16 (.bin .leq (t 19) (Ki 64)),[]),(I1 21 (.pick (t 16) (t 20) KF),[]),(Im 22 21,[]),(Jf 23 22 true 1 1,[]),(Jl 24 22 true 23,[]),(I2 25 22 (.idxs (t 24) (Ki 0)),[]),(I2 26 22 (.bin .geq (t 25) (k (.int .u8 97))),[]),(I1 27 (.pick (t 22) (t 26) KF),[]),(Im 28 27,[]),(Jf 29 28 true 1 1,[]),(Jl 30 28 true 29,[]),(I2 31 28 (.idxs (t 30) (Ki 0)),[]),(I2 32 28 (.bin .leq (t 31) (k (.int .u8 122))),[]),(I1 33 (.pick (t 28) (t 32) KF),[]),(Im 34 33,[]),(Jf 35 34 true 1 1,[]),(Jl 36 34 true 35,[]),(I2 37 34 (.pcall (Kf 144) [(t 36),(Ki 0),(Kf 199)]),[]),(Jf 38 34 true 1 1,[]),(Jl 39 34 true 38,[]),(I2 40 34 (.lens (t 39)),[]),(I2 41 34 (.bin .eql (t 37) (t 40)),[]),(I1 42 (.pick (t 34) (t 41) KF),[]),(Im 2 42,[])])
 .ret)
 (.seq (.reg [I1 44 (.bin .eql (t 4) (Ki 2)),Im 43 44])
 (.cond (t 43)
 (.seq (.reg [If 45 1 1,Il 46 45,I1 47 (.bin .eql (t 46) (Ks ([]))),Im 48 47,Jf 49 48 true 2 1,Jl 50 48 true 49,I2 51 48 (.bin .geq (t 50) (Ki 0)),I1 52 (.pick (t 48) (t 51) KF),Im 2 52])
 .ret)
 (.seq (.reg [I1 54 (.bin .eql (t 4) (Ki 4)),Im 53 54])
 (.cond (t 53)
 (.seq (.reg [If 55 1 1,Il 56 55,I1 57 (.bin .eql (t 56) (Ks ([]))),Im 58 57,Jf 59 58 true 2 1,Jl 60 58 true 59,I2 61 58 (.bin .geq (t 60) (Ki 0)),I1 62 (.pick (t 58) (t 61) KF),Im 63 62,Jf 64 63 true 2 1,Jl 65 63 true 64,I2 66 63 (.bin .leq (t 65) (Ki 1099511627776)),I1 67 (.pick (t 63) (t 66) KF),Im 2 67])
 .ret)
 (.seq (.reg [I1 69 (.bin .eql (t 4) (Ki 3)),Im 68 69])
 (.cond (t 68)
 (.seq (.draw 0 [(If 70 2 1,[]),(Il 71 70,[]),(I1 72 (.bin .eql (t 71) (Ki 0)),[]),(Im 73 72,[]),(Jf 74 73 true 1 1,[]),(Jl 75 73 true 74,[]),(I2 76 73 (.lens (t 75)),[]),(I2 77 73 (.bin .leq (t 76) (Ki 64)),[]),(I1 78 (.pick (t 73) (t 77) KF),[]),(Im 79 78,[]),(Jf 80 79 true 1 1,[]),(Jl 81 79 true 80,[]),(I2 82 79 (.pcall (Kf 144) [(t 81),(Ki 0),(Kf 200)]),[]),(Jf 83 79 true 1 1,[]),(Jl 84 79 true 83,[]),(I2 85 79 (.lens (t 84)),[]),(I2 86 79 (.bin .eql (t 82) (t 85)),[]),(I1 87 (.pick (t 79) (t 86) KF),[]),(Im 2 87,[])])
 .ret)
 (.seq (.reg [I1 89 (.bin .eql (t 4) (Ki 5)),Im 88 89])
 (.cond (t 88)
 (.seq (.draw 0 [(If 90 2 1,[]),(Il 91 90,[]),(I1 92 (.bin .eql (t 91) (Ki 0)),[]),(Im 93 92,[]),(I2 94 93 (.pcall (Kf 151) []),[]),(Jf 95 93 true 1 1,[]),(Jl 96 93 true 95,[]),(I2 97 93 (.pcall (Kf 47) [(t 94),(t 96)]),[]),(I1 98 (.pick (t 93) (t 97) KF),[]),(Im 2 98,[])])
 .ret)
 .skip))))))))))))
 (.seq (.reg [I1 2 (.mv KF)])
 .ret)))
theorem fn166 : Fn Tryz.prog 166 99 [.inl 2] c166:=⟨⟨_,_,Tryz.func166,rfl,by kernel_rfl,Tryz.ntmps166,by kernel_rfl,Hq0,by kernel_rfl⟩⟩
def c171 : C :=
 (.seq (.reg [I1 1 (.box (t 0)),I1 2 (.mv KF)])
 (.seq (.seq (.reg [If 3 3 1,Il 4 3,Iz 5 4,I1 6 (.bin .gtr (t 5) (Ki 0)),Im 7 6,Jf 8 7 false 0 1,Jl 9 7 false 8,I3 10 7 (.bin .lss (t 9) (Ki 0)),I1 11 (.pick (t 7) KT (t 10)),Im 12 11,Jf 13 12 false 0 1,Jl 14 12 false 13,I3 15 12 (.bin .gtr (t 14) (Ki 4)),I1 16 (.pick (t 12) KT (t 15))])
 (.cond (t 16)
 (.seq (.reg [I1 2 (.mv KF)])
 .ret)
 .skip))
 (.seq (.seq (.reg [If 17 0 1,Il 18 17,I1 19 (.bin .eql (t 18) (Ki 3))])
 (.cond (t 19)
 (.seq (.reg [If 20 1 1,Il 21 20,I1 22 (.bin .eql (t 21) (Ki 0)),Im 23 22,Jf 24 23 true 2 1,Jl 25 23 true 24,I2 26 23 (.lens (t 25)),I2 27 23 (.bin .leq (t 26) (Ki 64)),I1 28 (.pick (t 23) (t 27) KF),Im 2 28])
 .ret)
 .skip))
 (.seq (.seq (.reg [If 29 2 1,Il 30 29,I1 31 (.bin .neq (t 30) (Ks ([]))),Im 32 31,Jf 33 32 false 0 1,Jl 34 32 false 33,I3 35 32 (.bin .eql (t 34) (Ki 0)),Jm 36 32 false 35,Jf 37 36 true 1 1,Jl 38 36 true 37,I2 39 36 (.bin .neq (t 38) (Ki 0)),I3 40 32 (.pick (t 36) (t 39) KF),I1 41 (.pick (t 32) KT (t 40)),Im 42 41,Jf 43 42 false 0 1,Jl 44 42 false 43,I3 45 42 (.bin .eql (t 44) (Ki 1)),Jm 46 42 false 45,Jf 47 46 true 1 1,Jl 48 46 true 47,I2 49 46 (.bin .neq (t 48) (Ki 0)),I3 50 42 (.pick (t 46) (t 49) KF),Jm 51 42 false 50,Jf 52 51 true 1 1,Jl 53 51 true 52,I2 54 51 (.bin .neq (t 53) (Ki 1)),I3 55 42 (.pick (t 51) (t 54) KF),I1 56 (.pick (t 42) KT (t 55))])
 (.cond (t 56)
 (.seq (.reg [I1 2 (.mv KF)])
 .ret)
 .skip))
 (.seq (.reg [If 57 0 1,Il 58 57,I1 59 (.bin .neq (t 58) (Ki 4)),Im 60 59,Jf 61 60 false 1 1,Jl 62 60 false 61,I3 63 60 (.bin .geq (t 62) (Ki 0)),Jm 64 60 false 63,Jf 65 64 true 1 1,Jl 66 64 true 65,I2 67 64 (.bin .leq (t 66) (Ki 1099511627776)),I3 68 60 (.pick (t 64) (t 67) KF),I1 69 (.pick (t 60) KT (t 68)),Im 2 69])
 .ret)))))
theorem fn171 : Fn Tryz.prog 171 70 [.inl 2] c171:=⟨⟨_,_,Tryz.func171,rfl,by kernel_rfl,Tryz.ntmps171,by kernel_rfl,Hq0,by kernel_rfl⟩⟩
def c242 : C :=
 (.seq (.reg [I1 2 (.alloc [(.int .i64 0),(.int .i64 0),(.str []),.nils])])
 (.seq (.reg [Im 3 0,I1 4 (.build [(.int .i64 0),(.int .i64 0),(.str []),.nils] [(0,1,(Ki 2)),(1,1,(t 3))]),Is 4 2 4])
 .ret))
theorem fn242 : Fn Tryz.prog 242 5 [.inr (2,true,4)] c242:=⟨⟨_,_,Tryz.func242,rfl,by kernel_rfl,Tryz.ntmps242,by kernel_rfl,Hq0,by kernel_rfl⟩⟩
def c253 : C :=
 (.seq (.reg [Im 10 1,I1 11 (.bin .add (t 10) (Ki 1)),Im 8 11])
 (.block 0
 (.loop
 (.seq (.seq (.reg [Im 12 8,Im 13 2,I1 14 (.bin .lss (t 12) (t 13))])
 (.cond (t 14)
 .skip
 (.exit 0)))
 (.seq (.block 1
 (.seq (.reg [Im 17 8,Im 9 17])
 (.block 2
 (.loop
 (.seq (.seq (.draw 0 [(Im 18 9,[]),(Im 19 1,[]),(I1 20 (.bin .gtr (t 18) (t 19)),[]),(Im 21 20,[]),(Jm 22 21 true 3,[]),(Jm 23 21 true 0,[]),(Jm 24 21 true 9,[]),(I2 25 21 (.iaddr 4 (t 23) (t 24)),[]),(I2 26 21 (.load true 4 (t 25)),[]),(Jm 27 21 true 0,[]),(Jm 28 21 true 9,[]),(I2 29 21 (.bin .sub (t 28) (Ki 1)),[]),(I2 30 21 (.iaddr 4 (t 27) (t 29)),[]),(I2 31 21 (.load true 4 (t 30)),[]),(I2 32 21 (.pcall (t 22) [(t 26),(t 31)]),[]),(I2 33 21 (.bin .lss (t 32) (Ki 0)),[]),(I1 34 (.pick (t 21) (t 33) KF),[])])
 (.cond (t 34)
 .skip
 (.exit 2)))
 (.seq (.block 3
 (.draw 0 [(Im 37 0,[]),(Im 38 9,[]),(Im 39 0,[]),(Im 40 9,[]),(I1 41 (.bin .sub (t 40) (Ki 1)),[]),(Im 42 0,[]),(Im 43 9,[]),(I1 44 (.bin .sub (t 43) (Ki 1)),[]),(I1 45 (.iaddr 4 (t 42) (t 44)),[]),(Ia 46 4 45,[]),(Im 47 0,[]),(Im 48 9,[]),(I1 49 (.iaddr 4 (t 47) (t 48)),[]),(Ia 50 4 49,[]),(I1 51 (.iaddr 4 (t 37) (t 38)),[]),(Is 4 51 46,[]),(I1 52 (.iaddr 4 (t 39) (t 41)),[]),(Is 4 52 50,[])]))
 (.reg [Im 35 9,I1 36 (.bin .sub (t 35) (Ki 1)),Im 9 36])))))))
 (.reg [Im 15 8,I1 16 (.bin .add (t 15) (Ki 1)),Im 8 16]))))))
theorem fn253 : Fn Tryz.prog 253 53 [] c253:=⟨⟨_,_,Tryz.func253,rfl,by kernel_rfl,Tryz.ntmps253,by kernel_rfl,Hq0,by kernel_rfl⟩⟩
end GP
