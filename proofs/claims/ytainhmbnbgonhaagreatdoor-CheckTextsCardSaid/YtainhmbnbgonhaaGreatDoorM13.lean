import Derived.Test.YtainhmbnbgonhaaGreatDoorM5
import Derived.Test.YtainhmbnbgonhaaGreatDoorM12
set_option linter.unusedSimpArgs false
set_option linter.unnecessarySimpa false
namespace GP
open Go Go.Proofs
set_option maxRecDepth 100000
def can (d : D) : D:=mkV (vk d) (vi d) (vs d) false []
theorem mO (d : D) : vk (can d) = vk d:=by simp [can,gX]
theorem uD (d : D) : vi (can d) = vi d:=by simp [can,j9]
theorem pI (d : D) : vs (can d) = vs d:=by simp [can,kL]
theorem LG (d : D) : vl (can d) = []:=by simp [can,fO]
theorem Nq (d : D) : can (can d) = can d:=by simp only [can,gX,j9,kL]
theorem Al {d : D} (h : dI d = true) : dI (can d) = true:=by
 have hl : (vl d).length = 0:=jF h
 unfold dI at h ⊢
 rw [mO,uD,pI,LG]
 rw [hl] at h;exact h
theorem Hg (a b : D) : aN (can a) (can b) = aN a b:=by
 rw [gN,gN];simp only [mO,uD,pI]
theorem Mv {a b : D} (ha : dI a = true) (hb : dI b = true) : aN a b = 0 ↔ can a = can b:=by
 rw [Fh ha hb]
 constructor
 ·rintro ⟨h1,h2,h3⟩
  simp only [can,h1,h2,h3]
 ·intro h
  have h1:=congrArg vk h;have h2:=congrArg vi h;have h3:=congrArg vs h
  simp only [mO,uD,pI] at h1 h2 h3
  exact ⟨h1,h2,h3⟩
theorem k8 (a : D) : aN a a = 0:=by
 have:=gK a a;omega
def i7 (l : List D) : Prop:=l.Pairwise fun a b=>aN a b < 0
def iX (l : List D) : Prop:=∀ x ∈ l,dI x = true
theorem yU : ∀ (A B : List D),i7 A -> i7 B -> (∀ x,x ∈ A ↔ x ∈ B) -> A = B
 | [],B,_,_,h=>by
  cases B with
  | nil=>rfl
  | cons b B=>exact absurd ((h b).2 (by simp)) (by simp)
 | a :: A,[],_,_,h=>absurd ((h a).1 (by simp)) (by simp)
 | a :: A,b :: B,hA,hB,h=>by
  unfold i7 at hA hB
  rw [List.pairwise_cons] at hA hB
  have e : a = b:=by
   rcases List.mem_cons.1 ((h a).1 (by simp)) with e | h1
   ·exact e
   rcases List.mem_cons.1 ((h b).2 (by simp)) with e | h2
   ·exact e.symm
   have k1:=hB.1 a h1
   have k2:=hA.1 b h2
   have:=gK a b
   omega
  subst e
  have nA : a ∉ A:=fun hm=>by have:=hA.1 a hm;rw [k8] at this;omega
  have nB : a ∉ B:=fun hm=>by have:=hB.1 a hm;rw [k8] at this;omega
  rw [yU A B hA.2 hB.2 fun x=>?_]
  have:=h x
  constructor
  ·intro hx
   rcases List.mem_cons.1 (this.1 (by simp [hx])) with rfl | h1
   ·exact absurd hx nA
   ·exact h1
  ·intro hx
   rcases List.mem_cons.1 (this.2 (by simp [hx])) with rfl | h1
   ·exact absurd hx nB
   ·exact h1
def sO : List D -> D -> List D
 | [],x=>[x]
 | z :: r,x=>if aN z x < 0 then z :: sO r x else if aN z x == 0 then z :: r else x :: z :: r
def dS (xs : List D) : List D:=(xs.map can).foldl sO []
theorem Ag {x : D} (hx : dI x = true) (cx : can x = x) : ∀ (zs : List D),iX zs -> (∀ z ∈ zs,can z = z) -> ∀ y,y ∈ sO zs x ↔ y ∈ zs ∨ y = x
 | [],_,_,y=>by simp [sO]
 | z :: r,hz,cz,y=>by
  have ih:=Ag hx cx r (fun w hw=>hz w (by simp [hw])) (fun w hw=>cz w (by simp [hw])) y
  unfold sO
  split
  ·simp only [List.mem_cons,ih]
   constructor
   ·rintro (h | h | h) <;> simp [h]
   ·rintro ((h | h) | h) <;> simp [h]
  ·split
   ·rename_i h0
    have e : z = x:=by
     have:=(Mv (hz z (by simp)) hx).1 (by simpa using h0)
     rw [cz z (by simp),cx] at this;exact this
    subst e
    constructor
    ·intro h;exact .inl h
    ·rintro (h | rfl)
     ·exact h
     ·simp
   ·simp only [List.mem_cons]
    constructor
    ·rintro (h | h) <;> simp [h]
    ·rintro (h | h) <;> simp [h]
theorem yW {x : D} (hx : dI x = true) (cx : can x = x) : ∀ (zs : List D),iX zs -> (∀ z ∈ zs,can z = z) -> i7 zs -> i7 (sO zs x)
 | [],_,_,_=>by simp [sO,i7]
 | z :: r,hz,cz,h=>by
  have hr : iX r:=fun w hw=>hz w (by simp [hw])
  have cr : ∀ w ∈ r,can w = w:=fun w hw=>cz w (by simp [hw])
  unfold i7 at h
  rw [List.pairwise_cons] at h
  unfold sO
  split
  ·rename_i h0
   refine List.pairwise_cons.2 ⟨fun y hy=>?_,yW hx cx r hr cr h.2⟩
   rcases (Ag hx cx r hr cr y).1 hy with hy | rfl
   ·exact h.1 y hy
   ·exact h0
  ·split
   ·exact List.pairwise_cons.2 h
   ·rename_i h0 h1
    have hlt : aN x z < 0:=by
     have:=gK z x
     have h1' : ¬ aN z x = 0:=by simpa using h1
     omega
    refine List.pairwise_cons.2 ⟨fun y hy=>?_,List.pairwise_cons.2 h⟩
    rcases List.mem_cons.1 hy with rfl | hy
    ·exact hlt
    ·exact (l8 x z y).l1 hlt (by have:=h.1 y hy;omega)
theorem Fp : ∀ (xs zs : List D),iX xs -> (∀ x ∈ xs,can x = x) -> iX zs -> (∀ z ∈ zs,can z = z) -> i7 zs -> i7 (xs.foldl sO zs) /\ (∀ y,y ∈ xs.foldl sO zs ↔ y ∈ zs ∨ y ∈ xs)
 | [],zs,_,_,_,_,hr=>⟨hr,by simp⟩
 | x :: xs,zs,hx,cx,hz,cz,hr=>by
  have m:=Ag (hx x (by simp)) (cx x (by simp)) zs hz cz
  have ih:=Fp xs (sO zs x) (fun w hw=>hx w (by simp [hw])) (fun w hw=>cx w (by simp [hw])) (fun w hw=>by
   rcases (m w).1 hw with h | rfl
   ·exact hz w h
   ·exact hx w (by simp)) (fun w hw=>by
   rcases (m w).1 hw with h | rfl
   ·exact cz w h
   ·exact cx w (by simp)) (yW (hx x (by simp)) (cx x (by simp)) zs hz cz hr)
  refine ⟨ih.1,fun y=>?_⟩
  rw [List.foldl_cons,ih.2 y,m y,List.mem_cons,or_assoc]
theorem jI {xs : List D} (h : iX xs) : i7 (dS xs) /\ ∀ y,y ∈ dS xs ↔ ∃ x ∈ xs,y = can x:=by
 obtain ⟨h1,h2⟩:=Fp (xs.map can) [] (fun x hx=>by obtain ⟨y,hy,rfl⟩:=List.mem_map.1 hx;exact Al (h y hy)) (fun x hx=>by obtain ⟨y,_,rfl⟩:=List.mem_map.1 hx;exact Nq y) (by simp [iX]) (by simp) (by simp [i7])
 refine ⟨h1,fun y=>?_⟩
 rw [dS,h2 y]
 simp [eq_comm]
theorem Cd (hs : ∀ a b : D,dI a = true -> dI b = true -> gU a b = aN a b) : ∀ (l : List D) (p : D),dI p = true -> iX l -> (p :: l).Pairwise (fun a b=>¬ aN b a < 0) →
  (∀ z ∈ v4 p l,aN p z < 0) /\ i7 (v4 p l) /\ (∀ z ∈ v4 p l,z ∈ l) /\ ∀ x ∈ l,aN p x = 0 ∨ ∃ z ∈ v4 p l,aN z x = 0
 | [],p,_,_,_=>by simp [v4,i7]
 | y :: l,p,hp,hl,h=>by
  have hy:=hl y (by simp)
  rw [List.pairwise_cons] at h
  obtain ⟨i1,i2,i3,i4⟩:=Cd hs l y hy (fun w hw=>hl w (by simp [hw])) h.2
  have hyp:=h.1 y (by simp)
  have an:=gK y p
  simp only [v4,hs y p hy hp]
  split
  ·rename_i h0
   have h0 : aN y p = 0:=by simpa using h0
   refine ⟨fun z hz=>(l8 p y z).l2 (by omega) (i1 z hz),i2,fun z hz=>by simp [i3 z hz],fun x hx=>?_⟩
   rcases List.mem_cons.1 hx with rfl | hx
   ·exact .inl (by omega)
   ·rcases i4 x hx with h1 | h1
    ·exact .inl (by rw [(l8 p y x).e1 (by omega)];exact h1)
    ·exact .inr h1
  ·rename_i h0
   have h0 : ¬ aN y p = 0:=by simpa using h0
   have hpy : aN p y < 0:=by omega
   refine ⟨fun z hz=>?_,List.pairwise_cons.2 ⟨i1,i2⟩,fun z hz=>?_,fun x hx=>?_⟩
   ·rcases List.mem_cons.1 hz with rfl | hz
    ·exact hpy
    ·exact (l8 p y z).l1 hpy (by have:=i1 z hz;omega)
   ·rcases List.mem_cons.1 hz with rfl | hz
    ·simp
    ·simp [i3 z hz]
   ·rcases List.mem_cons.1 hx with rfl | hx
    ·exact .inr ⟨x,by simp,k8 x⟩
    ·rcases i4 x hx with h1 | ⟨z,h1,h2⟩
     ·exact .inr ⟨y,by simp,h1⟩
     ·exact .inr ⟨z,by simp [h1],h2⟩
theorem Cv (hs : ∀ a b : D,dI a = true -> dI b = true -> gU a b = aN a b) {l : List D} (hl : iX l) (h : l.Pairwise (fun a b=>¬ aN b a < 0)) : i7 (i9 l) /\ (∀ z ∈ i9 l,z ∈ l) /\ ∀ x ∈ l,∃ z ∈ i9 l,aN z x = 0:=by
 cases l with
 | nil=>simp [i9,i7]
 | cons p l =>
  obtain ⟨i1,i2,i3,i4⟩:=Cd hs l p (hl p (by simp)) (fun w hw=>hl w (by simp [hw])) h
  refine ⟨List.pairwise_cons.2 ⟨i1,i2⟩,fun z hz=>?_,fun x hx=>?_⟩
  ·rcases List.mem_cons.1 hz with rfl | hz
   ·simp
   ·simp [i3 z hz]
  ·rcases List.mem_cons.1 hx with rfl | hx
   ·exact ⟨x,by simp [i9],k8 x⟩
   ·rcases i4 x hx with h1 | ⟨z,h1,h2⟩
    ·exact ⟨p,by simp [i9],h1⟩
    ·exact ⟨z,by simp [i9,h1],h2⟩
theorem kJ {a b : D} (ha : dI a = true) (hb : dI b = true) : gU a b = aN a b:=BB ha hb f0
theorem NR {xs ys : List D} (hx : iX xs) (hp : ys.Perm xs) (h : ys.Pairwise (fun a b=>¬ gU b a < 0)) : (i9 ys).map can = dS xs:=by
 have hy : iX ys:=fun y h=>hx y (hp.mem_iff.1 h)
 have h' : ys.Pairwise (fun a b=>¬ aN b a < 0):=h.imp_of_mem fun {a b} ha hb hab=>by rw [<- kJ (hy b hb) (hy a ha)];exact hab
 obtain ⟨c1,c2,c3⟩:=Cv (fun a b ha hb=>kJ ha hb) hy h'
 obtain ⟨b1,b2⟩:=jI hx
 refine yU _ _ ?_ b1 fun y=>?_
 ·unfold i7 at c1 ⊢
  rw [List.pairwise_map]
  exact c1.imp fun {a b} h=>by rw [Hg];exact h
 ·rw [b2 y,List.mem_map]
  constructor
  ·rintro ⟨z,hz,rfl⟩
   exact ⟨z,hp.mem_iff.1 (c2 z hz),rfl⟩
  ·rintro ⟨x,hx',rfl⟩
   obtain ⟨z,hz,h0⟩:=c3 x (hp.mem_iff.2 hx')
   exact ⟨z,hz,(Mv (hy z (c2 z hz)) (hx x hx')).1 h0⟩
def mR (xs : List D) (v : D) : Bool:=(vk v == 0) || (vk v == 5) || (vk v != vk0 xs)
def gD (xs : List D) : D × Int :=
 if xs.all fZ = false then (eE,1) else if xs.any (mR xs) then (eE,6) else
 if decide ((16 : Int) < (dS xs).length) then (eE,13) else (mkV 5 0 [] false (dS xs),0)
end GP
namespace GP
open Go Go.Proofs
set_option maxRecDepth 100000
@[reducible] def TW (P : Program) : HasG P:=⟨fun _ _=>True,fun _ _ h=>h⟩
theorem P5 {x : D} (h : x.isV = true) (hl : leaf x = true) : x.cl 0 0 = true:=by
 obtain ⟨k,i,s,n,l,rfl,_⟩:=bZ h
 simp only [leaf,fO,List.isEmpty_iff] at hl
 subst hl
 rcases aU n [] with ⟨e,_⟩ | e <;> simp [mkV,e,D.cl,D.clL]
theorem KR [hI : HasG Tryz.prog] {xs rest : List D} {H : Hp} {o cap : Nat} {T : Tk} {Q : dM} (ho : H[o]? = some (.row (aT xs ++ rest))) (hv : ∀ x ∈ xs,x.isV = true) (h1 : iX xs) (hn : 0 < xs.length) (hl : xs.length <= 2 ^ 40)
  (hQ : ∀ ys,ys.Perm xs -> ys.Pairwise (fun a b=>¬ gU b a < 0) -> Q (.tup []) (H.set o (.row (aT ys ++ rest))) T) : Snd Tryz.prog 248 [.ms true 4 o 0 xs.length cap,.fn 64 [] []] H T Q:=by
 have hag:=rF hv
 have hlf : ∀ x ∈ xs,leaf x = true:=fun x hx=>by
  have:=jF (h1 x hx)
  simp [leaf,List.length_eq_zero_iff.1 this]
 have hch : dJ true 4 xs.length ((aT xs ++ rest).drop 0) = xs:=by rw [List.drop_zero];exact uS xs rest hag
 have e248 : ∀ args w,(callFunc 248 args).run Tryz.prog w = .ok (.enter 248 args) w:=enters_of Tryz.func248 (by kernel_rfl) rfl
 have e64 : ∀ args w,(callFunc 64 args).run Tryz.prog w = .ok (.enter 64 args) w:=enters_of Tryz.func64 (by kernel_rfl) rfl
 have an : ∀ x ∈ xs,∀ y ∈ xs,gU x y = aN x y:=fun x hx y hy=>kJ (h1 x hx) (h1 y hy)
 refine MM (inst:=hI) (P:=Tryz.prog) (f:=248) (g:=64) (ρ:=Tryz.sortVal_ren) Tryz.sortVal 4 Tryz.isAgg29 Tryz.sizeOf29 rfl e248 e64 (TW _) (fun _ _=>trivial) (off:=0) (cap:=cap) ho hn (by omega) (by simp [hag.flat]) gU ?_ ?_ ?_ ?_ ?_ ?_
 ·rw [hch];exact fun x hx=>P5 (hv x hx) (hlf x hx)
 ·rw [hch]
  intro x hx y hy
  have p:=C4 (hv x hx) (hv y hy) (hlf x hx) (hlf y hy)
  exact @Le (TW _) _ _ p [x,y] (bD (by simp [hv x hx,hv y hy])) [] [] _ rfl
 ·rw [hch];intro x hx;rw [an x hx x hx,k8];omega
 ·rw [hch];intro x hx y hy z hz a b
  rw [an x hx y hy] at a;rw [an y hy z hz] at b;rw [an x hx z hz]
  exact (l8 x y z).l1 a (by omega)
 ·rw [hch];intro x hx y hy z hz a b
  rw [an x hx y hy] at a;rw [an y hy z hz] at b;rw [an x hx z hz]
  have t1:=l8 z y x
  have a1:=gK x y;have a2:=gK y z;have a3:=gK x z
  have:=t1.le (by omega) (by omega)
  omega
 ·rw [hch]
  intro ys hp hs
  have hl2 : (aT ys).length = xs.length * 4:=by rw [(hag.sub fun y hy=>hp.mem_iff.1 hy).flat,hp.length_eq]
  have:=hQ ys hp hs
  rw [Nat.zero_add,List.take_zero,List.nil_append,List.drop_left' hag.flat]
  exact this
def Pe : D -> Bool
 | .nils=>true
 | _=>false
def FD : List D -> Option D
 | [l]=>if FF l = true /\ D.isVs (elems l) = true /\ (elems l).length <= 2 ^ 40 /\ (Pe l || !(elems l).isEmpty) = true then some (.tup [(gD (elems l)).1,.int .i64 (gD (elems l)).2]) else none
 | _=>none
theorem Nu {zs ws : List D} (h : zs.map can = ws) (hv : ∀ z ∈ zs,z.isV = true /\ leaf z = true) : Crs (.sl none zs) (.sl none ws):=by
 subst h
 intro c v hr
 cases hr with
 | sl _ _ a cap sz us hlen hb hsz h1 ha hs hM hr htl ht =>
  have hcell : ∀ (i : Nat) (hi : i < zs.length),∃ k j s l,zs[i] = .agg [.int .i64 k,.int .i64 j,.str s,l] /\ (l = .nils ∨ l = .sl none []) /\ can zs[i] = .agg [.int .i64 k,.int .i64 j,.str s,.sl none []]:=by
   intro i hi
   obtain ⟨hz,hl⟩:=hv _ (List.getElem_mem hi)
   obtain ⟨k,j,s,n,l,e,_⟩:=bZ hz
   rw [e] at hl
   simp only [leaf,fO,List.isEmpty_iff] at hl
   subst hl
   refine ⟨k,j,s,aA n [],by rw [e];rfl,?_,by rw [e];simp [can,gX,j9,kL];rfl⟩
   cases n
   ·exact .inr rfl
   ·exact .inl rfl
  have:=Rep.sl (c:=c) none (zs.map can) a cap sz us (by simpa using hlen) (by simpa using hb) ?_ ?_ ?_ ?_ ?_ ?_ (fun τ h=>by cases h) (fun τ h=>by cases h)
  ·simpa using this
  ·intro x hx
   obtain ⟨z,hz,rfl⟩:=List.mem_map.1 hx
   obtain ⟨i,hi,rfl⟩:=List.getElem_of_mem hz
   obtain ⟨k,j,s,l,e1,_,e2⟩:=hcell i hi
   have:=hsz _ (List.getElem_mem hi)
   rw [e1] at this;rw [e2];simpa [D.cells] using this
  ·intro x hx y hy
   obtain ⟨z,hz,rfl⟩:=List.mem_map.1 hx
   obtain ⟨i,hi,rfl⟩:=List.getElem_of_mem hz
   obtain ⟨k,j,s,l,e1,_,e2⟩:=hcell i hi
   rw [e2] at hy
   simp only [D.cells,List.mem_cons,List.not_mem_nil,or_false] at hy
   rcases hy with rfl | rfl | rfl | rfl <;> rfl
  ·intro hne;exact ha (by intro e;subst e;exact hne rfl)
  ·intro hne;exact hs (by intro e;subst e;exact hne rfl)
  ·intro i hi;exact hM i (by simpa using hi)
  ·intro i hi j hj
   have hi' : i < zs.length:=by simpa using hi
   obtain ⟨k,q,s,l,e1,e3,e2⟩:=hcell i hi'
   have hc : (zs.map can)[i] = .agg [.int .i64 k,.int .i64 q,.str s,.sl none []]:=by rw [List.getElem_map];exact e2
   have hj' : j < (zs[i].cells).length:=by rw [e1];rw [hc] at hj;exact hj
   have h0:=hr i hi' j hj'
   have hjn : j < 4:=by rw [hc] at hj;exact hj
   have ez : ∀ (l' : List D) (h : zs[i].cells = l') (hj2 : j < l'.length),zs[i].cells[j] = l'[j]:=fun l' h hj2=>by subst h;rfl
   have ec : ∀ (l' : List D) (h : ((zs.map can)[i]).cells = l') (hj2 : j < l'.length),((zs.map can)[i]).cells[j] = l'[j]:=fun l' h hj2=>by subst h;rfl
   rw [ez [.int .i64 k,.int .i64 q,.str s,l] (by rw [e1];rfl) hjn] at h0
   rw [ec [.int .i64 k,.int .i64 q,.str s,.sl none []] (by rw [hc];rfl) hjn]
   match j,hjn,h0 with
   | 0,_,h0=>exact h0
   | 1,_,h0=>exact h0
   | 2,_,h0=>exact h0
   | 3,_,h0 =>
    simp only [List.getElem_cons_succ,List.getElem_cons_zero] at h0 ⊢
    obtain ⟨u,hu⟩ : ∃ u,us i 3 = u:=⟨_,rfl⟩
    rw [hu] at h0 ⊢
    rcases e3 with rfl | rfl
    ·cases h0
     exact Rep.sl none [] none 0 0 (fun _ _=>undef) (by simp) (by simp) (by simp) (by simp) (by simp) (by simp) (by simp) (by simp) (by simp) (by simp)
    ·exact h0
theorem G6 {a b : D} (h : Crs a b) (e : Int) : Crs (.tup [a,.int .i64 e]) (.tup [b,.int .i64 e]):=by
 intro c v hr
 cases hr with
 | tup _ us hl hr =>
  match us,hl with
  | [x,y],_ =>
   refine .tup _ _ rfl fun i hi hi'=>?_
   match i,hi with
   | 0,_=>exact h _ _ (hr 0 (by simp) (by simp))
   | 1,_=>exact hr 1 (by simp) (by simp)
theorem JG {a b : D} (h : Crs a b) (ho : b.one = true) (k i : Int) (s : List UInt8) : Crs (.agg [.int .i64 k,.int .i64 i,.str s,a]) (.agg [.int .i64 k,.int .i64 i,.str s,b]):=by
 intro c v hr
 cases hr with
 | agg _ us hl h1 hr =>
  match us,hl with
  | [x,y,z,u],_ =>
   refine .agg _ _ rfl (fun d hd=>?_) fun j hi hi'=>?_
   ·simp only [List.mem_cons,List.not_mem_nil,or_false] at hd
    rcases hd with rfl | rfl | rfl | rfl <;> first | rfl | exact ho
   ·match j,hi with
    | 0,_=>exact hr 0 (by simp) (by simp)
    | 1,_=>exact hr 1 (by simp) (by simp)
    | 2,_=>exact hr 2 (by simp) (by simp)
    | 3,_=>exact h _ _ (hr 3 (by simp) (by simp))
theorem Mm : Crs .nils (.sl none []):=by
 intro c v hr
 cases hr
 exact Rep.sl none [] none 0 0 (fun _ _=>undef) (by simp) (by simp) (by simp) (by simp) (by simp) (by simp) (by simp) (by simp) (by simp) (by simp)
theorem Jz [HasG Tryz.prog] {H : Hp} {T : Tk} {Q : dM} (k : Q .nils H T) : Snd Tryz.prog 247 [.nils] H T Q:=by
 refine oS Pc (by simp) (fE (X:=XL []) (Ok.X .nil) (fun _ _ h=>h) ?_)
 have e1 : Option.map (fun b=>D.bool b) (E2 Tq.slc .nils D.nils) = some (.bool true):=rfl
 simp +contextual only [RV,e1,go_sem]
 exact k
theorem GT [HasG Tryz.prog] {H : Hp} {T : Tk} {Q : dM} (k : Q .nils H T) : Snd Tryz.prog 249 [.nils,.fn 250 [] []] H T Q:=by
 refine oS Q3 (by simp) (fE (X:=XL []) (Ok.X .nil) (fun _ _ h=>h) ?_)
 have d : decide ((0 : Int) < 2) = true:=by decide
 simp +contextual only [Nc,d,go_sem]
 exact k
theorem LH [HasG Tryz.prog] {H : Hp} {T : Tk} {Q : dM} (k : Q (.tup []) H T) : Snd Tryz.prog 248 [.nils,.fn 64 [] []] H T Q:=TF _ _ (show EC [.nils,.fn 64 [] []] = some (.tup []) from rfl) _ (by simp [D.eraseL,D.erase]) H T Q k
theorem JC (xs : List D) (h : iX xs) : (mkV 5 0 [] false (dS xs)).cl 0 0 = true:=by
 have : D.clL 0 0 (dS xs) = true:=jS fun d hd=>by
  obtain ⟨x,_,rfl⟩:=((jI h).2 d).1 hd
  rfl
 show D.clL 0 0 [.int .i64 5,.int .i64 0,.str [],aA false (dS xs)] = true
 rcases aU false (dS xs) with ⟨e,_⟩ | e <;> simp [e,D.clL,D.cl,this]
theorem Ae {B : Hp} {o : Nat} {x : Ob} (h : B[o]? = some x) (X : List D) (L : Hp) : eO (B.set o (.row X) ++ L) (.ptr o 0) = some X:=by
 have hlB : o < B.length:=by
  rcases Nat.lt_or_ge o B.length with h' | h'
  ·exact h'
  ·rw [List.getElem?_eq_none h'] at h;cases h
 simp only [eO]
 rw [List.getElem?_append_left (by simpa using hlB),List.getElem?_set_self hlB]
 rfl
theorem yG {B : Hp} {o : Nat} {x : Ob} (h : B[o]? = some x) (X : List D) : eO (B.set o (.row X)) (.ptr o 0) = some X:=by
 have:=Ae h X []
 rwa [List.append_nil] at this
set_option maxHeartbeats 8000000 in
theorem Vd [HasG Tryz.prog] : aO Tryz.prog 246 FD:=by
 have hM : cQ []:=.nil
 have u0 : ([247,248,249] : List FuncId).contains 129 = false:=rfl
 have u1 : ([247,248,249] : List FuncId).contains 247 = true:=rfl
 have u2 : ([247,248,249] : List FuncId).contains 248 = true:=rfl
 have u3 : ([247,248,249] : List FuncId).contains 249 = true:=rfl
 refine P6 (X:=XU Tryz.prog [247,248,249] [(129,kD)] [] []) (XU.X (.cons PX .nil) .nil .nil) Te fun args r h=>?_
 unfold FD at h
 split at h
 ·rename_i l
  split at h
  ·rename_i hc
   obtain ⟨h1,h2,h3,h4⟩:=hc
   injection h with h;subst h
   have hv:=gJ.1 h2
   have eL:=bD hv
   obtain ⟨n,hl⟩:=n7 h1
   obtain ⟨xs,hxs⟩ : ∃ xs,elems l = xs:=⟨_,rfl⟩
   rw [hxs] at h3 h4 hv eL hl ⊢
   subst hl
   clear h1 h2 hxs
   have hcl : ((gD xs).1).cl 0 0 = true:=by
    unfold gD
    split
    ·rfl
    split
    ·rfl
    split
    ·rfl
    ·rename_i g1 g2 _
     simp only [Bool.not_eq_false] at g1
     refine JC xs fun x hx=>?_
     have f:=List.all_eq_true.1 g1 x hx
     have k : ¬ vk x = 5:=fun k=>g2 (List.any_eq_true.2 ⟨x,hx,by simp [mR,k]⟩)
     unfold fZ at f
     rwa [if_pos (by simpa using k)] at f
   refine ⟨by simp,by simp [D.cl,D.clL,hcl],fun H T=>?_⟩
   simp +contextual only [VO,go_sem]
   refine bG (fun i s'=>s'.t 0 = aA n xs /\ s'.t 2 = .ptr H.length 0 /\ s'.t 9 = aA n xs /\ s'.t 10 = .int .i64 xs.length /\ s'.t 11 = .int .i64 (i : Nat) /\ Ext (H ++ [.row [.int .i64 0,.int .i64 0,.str [],.nils]]) s'.H /\ s'.T = T /\ i <= xs.length /\ ∀ (j : Nat) x,j < i -> xs[j]? = some x -> fZ x = true) xs.length
    ⟨0,by simp [upd,bF],by simp [upd],by simp [upd],by simp [upd],by simp [upd],Ext.refl _,rfl,by omega,fun j x h=>by omega⟩ (fun i s h=>h.2.2.2.2.2.2.2.1) ?_ (IF _ _ _ _)
   rintro i ⟨t,B,T'⟩ ⟨r0,r2,r9,r10,r11,hE,rfl,hi,hF⟩
   simp only at r0 r2 r9 r10 r11 hE
   have b1:=hE.get (o:=H.length) (x:=.row [.int .i64 0,.int .i64 0,.str [],.nils]) (by simp)
   have rS : ∀ (X : List D) (L : Hp),eO (B.set H.length (.row X) ++ L) (.ptr H.length 0) = some X:=Ae b1
   by_cases hlt : i < xs.length
   ·have d1 : decide (((i : Nat) : Int) < xs.length) = true:=by simp only [decide_eq_true_eq];omega
    obtain ⟨k1,i1,s1,n1,l1,e1,hs1,hx1,hV1,eL1⟩:=fF hv hlt
    have iv : (mkV k1 i1 s1 n1 l1).isV = true:=hv _ (List.mem_of_getElem? e1)
    have pf : kD [mkV k1 i1 s1 n1 l1] = some (.bool (fZ (mkV k1 i1 s1 n1 l1))):=by simp only [kD];rw [if_pos iv]
    rcases tf (fZ (mkV k1 i1 s1 n1 l1)) with g | g
    ·rw [g] at pf
     have hF' : ∀ (j : Nat) x,j < i + 1 -> xs[j]? = some x -> fZ x = true:=fun j x hj hx=>by
      rcases Nat.lt_or_ge j i with h' | h'
      ·exact hF j x h' hx
      ·have : j = i:=by omega
       subst this;rw [e1] at hx;injection hx with hx;rw [<- hx];exact g
     simp only [mkV] at pf
     simp +contextual only [r0,r2,r9,r10,r11,d1,e1,mkV,pf,u0,u1,u2,u3,oV,L4 hM,eL1,aH i (by omega),go_sem]
     exact ⟨hE.app _,by omega,hF'⟩
    ·rw [g] at pf
     simp only [mkV] at pf
     have hb : gD xs = (eE,1):=by
      unfold gD
      rw [if_pos (Bool.eq_false_iff.2 fun h=>by rw [List.all_eq_true.1 h _ (List.mem_of_getElem? e1)] at g;cases g)]
     simp +contextual only [r0,r2,r9,r10,r11,d1,e1,mkV,pf,u0,u1,u2,u3,oV,L4 hM,eL1,Ct b1,rS,go_sem]
     rw [hb]
     exact mM (.refl _) ((hE.pre.set (Nat.le_refl _) _).app _) (bQ.refl _)
   ·have d1 : decide (((i : Nat) : Int) < xs.length) = false:=by simp only [decide_eq_false_iff_not];omega
    have hAll : xs.all fZ = true:=List.all_eq_true.2 fun x hx=>by
     obtain ⟨j,hj,rfl⟩:=List.getElem_of_mem hx
     exact hF j _ (by omega) (by rw [List.getElem?_eq_getElem hj])
    clear hF
    have r0':=r0
    have r2':=r2
    simp +contextual only [r0,r2,r9,r10,r11,d1,u1,u2,u3,oV,go_sem]
    clear r0 r2 r9 r10 r11 d1 hlt hi b1 rS
    refine bG (fun i s'=>s'.t 0 = aA n xs /\ s'.t 2 = .ptr H.length 0 /\ s'.t 20 = aA n xs /\ s'.t 21 = .int .i64 xs.length /\ s'.t 22 = .int .i64 (i : Nat) /\ Ext (H ++ [.row [.int .i64 0,.int .i64 0,.str [],.nils]]) s'.H /\ s'.T = T' /\ i <= xs.length /\ ∀ (j : Nat) x,j < i -> xs[j]? = some x -> mR xs x = false) xs.length
     ⟨0,by simp [upd,r0'],by simp [upd,r2'],by simp [upd],by simp [upd],by simp [upd],hE,rfl,by omega,fun j x h=>by omega⟩ (fun i s h=>h.2.2.2.2.2.2.2.1) ?_ (IF _ _ _ _)
    clear r0' r2' hE
    rintro i ⟨t,B,T2⟩ ⟨r0,r2,r9,r10,r11,hE,rfl,hi,hF⟩
    simp only at r0 r2 r9 r10 r11 hE
    have b1:=hE.get (o:=H.length) (x:=.row [.int .i64 0,.int .i64 0,.str [],.nils]) (by simp)
    have rS : ∀ (X : List D) (L : Hp),eO (B.set H.length (.row X) ++ L) (.ptr H.length 0) = some X:=Ae b1
    by_cases hlt : i < xs.length
    ·have d1 : decide (((i : Nat) : Int) < xs.length) = true:=by simp only [decide_eq_true_eq];omega
     obtain ⟨k1,i1,s1,n1,l1,e1,hs1,hx1,hV1,eL1⟩:=fF hv hlt
     obtain ⟨k0,i0,s0,n0,l0,e0,_⟩:=fF hv (show 0 < xs.length by omega)
     have fk:=uY e0
     have hbd : mR xs (mkV k1 i1 s1 n1 l1) = ((k1 == 0) || (k1 == 5) || (k1 != k0)):=by simp only [mR,gX,fk]
     have hbad : mR xs (mkV k1 i1 s1 n1 l1) = true -> gD xs = (eE,6):=fun h=>by
      unfold gD
      rw [if_neg (by rw [hAll];decide),if_pos]
      exact List.any_eq_true.2 ⟨_,List.mem_of_getElem? e1,h⟩
     have hgood : mR xs (mkV k1 i1 s1 n1 l1) = false -> ∀ (j : Nat) x,j < i + 1 -> xs[j]? = some x -> mR xs x = false:=fun g j x hj hx=>by
      rcases Nat.lt_or_ge j i with h' | h'
      ·exact hF j x h' hx
      ·have : j = i:=by omega
       subst this;rw [e1] at hx;injection hx with hx;rw [<- hx];exact g
     rw [hbd] at hbad hgood
     simp +contextual only [r0,r2,r9,r10,r11,d1,e1,e0,mkV,u0,u1,u2,u3,oV,eL1,aH i (by omega),Ct b1,rS,go_sem]
     have fin : gD xs = (eE,6) -> dB (D.tup [(gD xs).fst,D.int IntKind.i64 (gD xs).snd]) H T2 (D.tup [D.agg [D.int IntKind.i64 0,D.int IntKind.i64 0,D.str [],D.nils],D.int IntKind.i64 6])
       (List.set B (List.length H) (Ob.row [D.int IntKind.i64 0,D.int IntKind.i64 0,D.str [],D.nils]) ++ [Ob.row [D.int IntKind.i64 k1,D.int IntKind.i64 i1,D.str s1,aA n1 l1]]) T2:=fun h=>by
      rw [h]
      exact mM (.refl _) ((hE.pre.set (Nat.le_refl _) _).app _) (bQ.refl _)
     exact ⟨fun q=>fin (hbad (by rw [q];rfl)),fun q1=>⟨fun q=>fin (hbad (by rw [q];simp)),fun q2=>⟨fun q=>fin (hbad (by rw [q];simp)),fun q3=>⟨hE.app _,by omega,hgood (by rw [q1,q2,q3];rfl)⟩⟩⟩⟩
    ·have d1 : decide (((i : Nat) : Int) < xs.length) = false:=by simp only [decide_eq_false_iff_not];omega
     have hAny : xs.any (mR xs) = false:=List.any_eq_false.2 fun x hx=>by
      obtain ⟨j,hj,rfl⟩:=List.getElem_of_mem hx
      rw [hF j _ (by omega) (by rw [List.getElem?_eq_getElem hj])];decide
     have h1 : iX xs:=fun x hx=>by
      have f:=List.all_eq_true.1 hAll x hx
      have g : ¬ (mR xs x = true):=List.any_eq_false.1 hAny x hx
      have k : ¬ vk x = 5:=fun k=>g (by simp [mR,k])
      unfold fZ at f
      rwa [if_pos (by simpa using k)] at f
     simp +contextual only [r0,r2,r9,r10,r11,d1,u1,u2,u3,oV,go_sem]
     rcases aU n xs with ⟨e,hx⟩ | e
     ·subst hx
      rw [e]
      refine Jz ?_
      simp +contextual only [u1,u2,u3,oV,go_sem]
      refine LH ?_
      simp +contextual only [u1,u2,u3,oV,go_sem]
      refine GT ?_
      have d2 : decide ((16 : Int) < 0) = false:=by decide
      simp +contextual only [u1,u2,u3,oV,r2,d2,nR b1,yG b1,go_sem]
      have hb0 : gD [] = (mkV 5 0 [] false [],0):=rfl
      rw [hb0]
      exact mM (G6 (JG Mm rfl 5 0 []) 0) (hE.pre.set (Nat.le_refl _) _) (bQ.refl _)
     ·rw [e] at h4 ⊢
      have hne : xs ≠ []:=by
       rintro rfl
       simp [Pe] at h4
      refine Kd hv hne h3 ?_
      simp +contextual only [u1,u2,u3,oV,go_sem]
      have hHB : H.length + 1 <= B.length:=by
       obtain ⟨L,hL⟩:=hE
       rw [hL];simp
      refine KR (rest:=[]) (by simp) hv h1 (List.length_pos_iff.2 hne) h3 (fun ys hp hs=>?_)
      simp +contextual only [u1,u2,u3,oV,go_sem]
      have hyv : ∀ y ∈ ys,y.isV = true /\ leaf y = true:=fun y hy=>by
       have hm:=hp.mem_iff.1 hy
       have:=jF (h1 y hm)
       exact ⟨hv y hm,by simp [leaf,List.length_eq_zero_iff.1 this]⟩
      have hcan:=NR h1 hp hs
      have hml : (i9 ys).length = (dS xs).length:=by rw [<- hcan];simp
      rw [<- hp.length_eq]
      refine Eo (ys:=ys) (rest:=[]) (by rw [List.getElem?_set_self (by simp)];simp) hyv (by rw [hp.length_eq];exact h3) (Nat.le_refl _) (fun rest'=>?_)
      obtain ⟨B2,hB2⟩ : ∃ B2,List.set (List.set (B ++ [Ob.dead,Ob.row (aT xs)]) (B.length + 1) (Ob.row (aT ys))) (B.length + 1) (Ob.row (aT (i9 ys) ++ rest')) = B2:=⟨_,rfl⟩
      have hE2 : Ext (H ++ [.row [.int .i64 0,.int .i64 0,.str [],.nils]]) B2:=by
       rw [<- hB2]
       exact ((hE.app _).set (by simp;omega) _).set (by simp;omega) _
      have hO : B2[B.length + 1]? = some (.row (aT (i9 ys) ++ rest')):=by
       rw [<- hB2,List.getElem?_set_self (by simp)]
      rw [hB2]
      have b2:=hE2.get (o:=H.length) (x:=.row [.int .i64 0,.int .i64 0,.str [],.nils]) (by simp)
      have hA1 : gD xs = if decide ((16 : Int) < (dS xs).length) then (eE,13) else (mkV 5 0 [] false (dS xs),0):=by
       unfold gD
       rw [if_neg (by rw [hAll];decide),if_neg (by rw [hAny];decide)]
      rw [<- hml] at hA1
      rcases tf (decide ((16 : Int) < (i9 ys).length)) with g | g
      ·rw [g,if_pos rfl] at hA1
       simp +contextual only [u1,u2,u3,oV,r2,g,nR b2,yG b2,go_sem]
       rw [hA1]
       exact mM (.refl _) (hE2.pre.set (Nat.le_refl _) _) (bQ.refl _)
      ·rw [g,if_neg (by decide)] at hA1
       simp +contextual only [u1,u2,u3,oV,r2,g,nR b2,yG b2,go_sem]
       rw [hA1]
       refine Gj (B.length + 1) (aT (i9 ys) ++ rest') (by rw [List.getElem?_set_ne (by omega)];exact hO) (by omega) ?_ (hE2.pre.set (Nat.le_refl _) _) (bQ.refl _)
       have hcv : ∀ z ∈ i9 ys,z.isV = true /\ leaf z = true:=fun z hz=>hyv z ((Cv (fun a b ha hb=>kJ ha hb) (fun y hy=>h1 y (hp.mem_iff.1 hy)) (hs.imp_of_mem fun {a b} ha hb hab=>by rw [<- kJ (h1 b (hp.mem_iff.1 hb)) (h1 a (hp.mem_iff.1 ha))];exact hab)).2.1 z hz)
       have hag:=rF (fun z hz=>(hcv z hz).1)
       have hl16 : ¬ ((16 : Int) < (i9 ys).length):=by simpa using g
       have efz : D.fz (B.length + 1) (aT (i9 ys) ++ rest') (.tup [.agg [.int .i64 5,.int .i64 0,.str [],.ms true 4 (B.length + 1) 0 (i9 ys).length ys.length],.int .i64 0]) = .tup [.agg [.int .i64 5,.int .i64 0,.str [],.sl none (i9 ys)],.int .i64 0]:=by
        simp only [D.fz,D.fzL]
        rw [if_pos ⟨trivial,by simp [hag.flat],.inl trivial,by omega⟩,List.drop_zero,uS _ _ hag]
       rw [efz]
       have hne2 : dS xs ≠ []:=by
        intro e0
        rw [e0] at hml
        cases ys with
        | nil=>exact hne (List.Perm.nil_eq hp).symm
        | cons y ys=>simp [i9] at hml
       have es : aA false (dS xs) = .sl none (dS xs):=by
        rcases aU false (dS xs) with ⟨_,e1⟩ | e1
        ·exact absurd e1 hne2
        ·exact e1
       have em : mkV 5 0 [] false (dS xs) = .agg [.int .i64 5,.int .i64 0,.str [],.sl none (dS xs)]:=by simp only [mkV,es]
       rw [em]
       exact G6 (JG (Nu hcan hcv) rfl 5 0 []) 0
  ·cases h
 ·cases h
def cG (k : Int) (s : List UInt8) (n : Int) : Bool :=
 if k == 1 then eD s && (n == 0) else
 if k == 2 then (s == []) && decide (0 <= n) else
 if k == 3 then s.all (fun b=>dY b.toNat) && decide ((s.length : Int) <= 64) && (n == 0) else
 if k == 4 then (s == []) && decide (0 <= n) && decide (n <= 1099511627776) else
 if k == 5 then cD s && (n == 0) else false
def dL : List D -> Option D
 | [.agg [.int .i64 k,.str s,.int .i64 n]]=>if s.length <= 2 ^ 60 then some (.bool (cG k s n)) else none
 | _=>none
theorem EJ (p : Int -> Bool) : ∀ (s : List UInt8),(((eX p s 0 : Nat) : Int) == (s.length : Int)) = s.all (fun b=>p b.toNat)
 | []=>rfl
 | c :: r=>by
  have ih:=EJ p r
  unfold eX at ih ⊢
  simp only [List.drop_zero] at ih ⊢
  rcases tf (p (c.toNat : Int)) with g | g
  ·rw [yA c r g,List.all_cons,g,Bool.true_and,← ih]
   rw [Bool.eq_iff_iff,beq_iff_eq,beq_iff_eq]
   simp only [List.length_cons];omega
  ·have : aX p (c :: r) = 0:=by unfold aX;simp [g]
   rw [this,List.all_cons,g,Bool.false_and,beq_eq_false_iff_ne]
   simp only [List.length_cons];omega
theorem Rc : aO Tryz.prog 102 uK:=QA Uw
theorem M3 : aO Tryz.prog 47 gR:=PG ZC Rc
theorem Jb (s : List UInt8) : gR [.sl none (cN.map .str),.str s] = some (.bool (cD s)):=by
 have hL : zM Jo (.sl none (cN.map D.str)):=⟨false,cN.map D.str,rfl,by decide,fun x hx=>by
  obtain ⟨y,hy,rfl⟩:=List.mem_map.1 hx
  have key : ∀ y ∈ cN,y.length <= 2 ^ 47:=by decide
  exact ⟨y,rfl,key y hy⟩⟩
 simp only [gR]
 rw [if_pos hL]
 congr 2
 have e : elems (D.sl none (cN.map D.str)) = cN.map D.str:=rfl
 rw [e,List.any_map,rO,CY,List.any_append,Bool.or_comm,List.contains_eq_any_beq,List.contains_eq_any_beq]
 rfl
set_option maxHeartbeats 16000000 in
theorem VY : aO Tryz.prog 166 dL:=by
 refine aG (l:=[(144,kC),(151,o9),(47,gR)]) (.cons JF (.cons Ps (.cons M3 .nil))) TQ fun args r h=>?_
 unfold dL at h
 split at h
 ·rename_i k s n
  split at h
  ·rename_i hl
   injection h with h;subst h
   refine ⟨by simp,by simp [D.cl],fun H T=>?_⟩
   have p1 : kC [.str s,.int .i64 0,.fn 199 [] []] = some (.int .i64 (eX b9 s 0 : Nat)):=by
    simp only [kC];rw [show zA 199 = some b9 from rfl];simp only;rw [if_pos ⟨by omega,by omega,by omega⟩];rfl
   have p2 : kC [.str s,.int .i64 0,.fn 200 [] []] = some (.int .i64 (eX dY s 0 : Nat)):=by
    simp only [kC];rw [show zA 200 = some dY from rfl];simp only;rw [if_pos ⟨by omega,by omega,by omega⟩];rfl
   have r1:=EJ b9 s
   have r2:=EJ dY s
   have p3 : o9 [] = some (.sl none (cN.map .str)):=rfl
   have p4:=Jb s
   have eS : D.eraseL (cN.map D.str) = cN.map D.str:=rfl
   obtain ⟨SB,hSB⟩ : ∃ z,cN.map D.str = z:=⟨_,rfl⟩
   rw [hSB] at p3 p4 eS
   unfold cG
   rcases tf (k == 1) with k1 | k1
   ·rw [if_pos k1]
    rcases tf (n == 0) with n0 | n0
    ·rw [n0,Bool.and_true]
     cases s with
     | nil =>
      have d1 : decide ((1 : Int) <= (([] : List UInt8).length : Nat)) = false:=rfl
      simp +contextual only [sM,k1,n0,d1,eD,go_sem]
     | cons c r =>
      have d1 : decide ((1 : Int) <= ((c :: r).length : Nat)) = true:=by simp;omega
      have ix : ∀ q,ixs (.str (c :: r)) (.int q 0) = some (.int .u8 c.toNat):=fun q=>dU (i:=0) rfl q
      have hwc:=tU c r
      have hal : eG (c.toNat : Int) = true -> (eG (c.toNat : Int) && r.all (fun b=>b9 b.toNat)) = (c :: r).all (fun b=>b9 b.toNat):=fun gl=>by
       rw [List.all_cons,fS (c.toNat : Int),gl];simp
      obtain ⟨S,hS⟩ : ∃ S,c :: r = S:=⟨_,rfl⟩
      rw [hS] at p1 p2 p4 r1 r2 d1 ix hwc hal hl ⊢
      rcases tf (decide ((S.length : Int) <= 64)) with d2 | d2
      ·rcases tf (decide ((97 : Int) <= c.toNat)) with d3 | d3
       ·rcases tf (decide ((c.toNat : Int) <= 122)) with d4 | d4
        ·have gl : eG (c.toNat : Int) = true:=by unfold eG;rw [d3,d4];rfl
         have hw : eD S = S.all (fun b=>b9 b.toNat):=by
          rw [hwc,hal gl,d2,Bool.and_true]
         rw [hw]
         simp +contextual only [sM,k1,n0,d1,d2,ix,d3,d4,p1,r1,go_sem]
        ·have hw : eD S = false:=by rw [hwc];unfold eG;rw [d3,d4];rfl
         rw [hw]
         simp +contextual only [sM,k1,n0,d1,d2,ix,d3,d4,go_sem]
       ·have hw : eD S = false:=by rw [hwc];unfold eG;rw [d3];rfl
        rw [hw]
        simp +contextual only [sM,k1,n0,d1,d2,ix,d3,go_sem]
      ·have hw : eD S = false:=by rw [hwc,d2,Bool.and_false]
       rw [hw]
       simp +contextual only [sM,k1,n0,d1,d2,go_sem]
    ·rw [n0,Bool.and_false]
     simp +contextual only [sM,k1,n0,go_sem]
   rw [if_neg (by rw [k1];decide)]
   rcases tf (k == 2) with k2 | k2
   ·rw [if_pos k2]
    rcases tf (s == []) with s0 | s0 <;> rw [s0] <;> simp +contextual only [sM,k1,k2,s0,go_sem]
   rw [if_neg (by rw [k2];decide)]
   rcases tf (k == 3) with k3 | k3
   ·rw [if_pos k3]
    have k4 : (k == 4) = false:=by
     have : k = 3:=by simpa using k3
     subst this;rfl
    rcases tf (n == 0) with n0 | n0
    ·rw [n0,Bool.and_true]
     rcases tf (decide ((s.length : Int) <= 64)) with d2 | d2
     ·rw [d2,Bool.and_true]
      simp +contextual only [sM,k1,k2,k3,k4,n0,d2,p2,r2,go_sem]
     ·rw [d2,Bool.and_false]
      simp +contextual only [sM,k1,k2,k3,k4,n0,d2,go_sem]
    ·rw [n0,Bool.and_false]
     simp +contextual only [sM,k1,k2,k3,k4,n0,go_sem]
   rw [if_neg (by rw [k3];decide)]
   rcases tf (k == 4) with k4 | k4
   ·rw [if_pos k4]
    rcases tf (s == []) with s0 | s0
    ·rcases tf (decide (0 <= n)) with n0 | n0 <;> rw [s0,n0] <;> simp +contextual only [sM,k1,k2,k4,s0,n0,go_sem]
    ·rw [s0];simp +contextual only [sM,k1,k2,k4,s0,go_sem]
   rw [if_neg (by rw [k4];decide)]
   rcases tf (k == 5) with k5 | k5
   ·rw [if_pos k5]
    rcases tf (n == 0) with n0 | n0
    ·rw [n0,Bool.and_true];simp +contextual only [sM,k1,k2,k3,k4,k5,n0,p3,eS,p4,go_sem]
    ·rw [n0,Bool.and_false];simp +contextual only [sM,k1,k2,k3,k4,k5,n0,go_sem]
   ·rw [if_neg (by rw [k5];decide)]
    simp +contextual only [sM,k1,k2,k3,k4,k5,go_sem]
  ·cases h
 ·cases h
theorem A0 {α : Type} {p : α -> Bool} {l : List α} {j : Nat} {x : α} (hx : l[j]? = some x) (hp : p x = false) : l.all p = false :=
 List.all_eq_false.2 ⟨x,List.mem_of_getElem? hx,by simp [hp]⟩
theorem A7 {α : Type} {p : α -> Bool} {l : List α} {j : Nat} {x : α} (hx : l[j]? = some x) (h : (l.take j).all p = true) (hp : p x = true) : (l.take (j + 1)).all p = true:=by
 rw [List.take_add_one,hx];simp [h,hp]
set_option maxHeartbeats 16000000 in
theorem Lm : aO Tryz.prog 57 dL:=by
 refine aG (l:=[(109,qK),(110,qN)]) (.cons Pq (.cons Lt .nil)) A1b fun args r h=>?_
 unfold dL at h
 split at h
 ·rename_i k s n
  split at h
  ·rename_i hl
   injection h with h;subst h
   refine ⟨by simp,by simp [D.cl],fun H T=>?_⟩
   have p1 : qK [.str s] = some (.bool (eD s)):=by simp only [qK];rw [if_pos hl]
   have p2 : qN [.str s] = some (.bool (cD s)):=rfl
   unfold cG
   rcases tf (k == 1) with k1 | k1
   ·rw [if_pos k1]
    rcases tf (eD s) with w | w <;> rw [w] <;> rw [w] at p1 <;> simp +contextual only [c57,k1,p1,go_sem]
   rw [if_neg (by rw [k1];decide)]
   rcases tf (k == 2) with k2 | k2
   ·rw [if_pos k2]
    rcases tf (s == []) with s0 | s0 <;> rw [s0] <;> simp +contextual only [c57,k1,k2,s0,go_sem]
   rw [if_neg (by rw [k2];decide)]
   rcases tf (k == 3) with k3 | k3
   ·rw [if_pos k3]
    simp +contextual only [c57,k1,k2,k3,go_sem]
    refine bG (fun i s'=>s'.t 1 = .ptr H.length 0 /\ s'.t 3 = .int .i64 (i : Nat) /\ s'.H = H ++ [.row [.int .i64 k,.str s,.int .i64 n]] /\ s'.T = T /\ i <= s.length /\ (s.take i).all (fun b=>dY b.toNat) = true) s.length ⟨0,by simp [upd,bF]⟩ (fun i s h=>h.2.2.2.2.1) ?_ (aI _)
    rintro i ⟨t,B,T'⟩ ⟨r1,r3,rfl,rfl,hi,hc⟩
    simp only at r1 r3
    by_cases hlt : i < s.length
    ·have d1 : decide (((i : Nat) : Int) < s.length) = true:=by simp only [decide_eq_true_eq];omega
     have ex : s[i]? = some s[i]:=by simp [hlt]
     obtain ⟨b,hb⟩ : ∃ b,s[i] = b:=⟨_,rfl⟩
     rw [hb] at ex
     have ix:=fun q=>dU ex q
     have no:=fun hp=>A0 (p:=fun b : UInt8=>dY b.toNat) ex hp
     have nx:=fun hp=>A7 (p:=fun b : UInt8=>dY b.toNat) ex hc hp
     have pT : dY (b.toNat : Int) = (decide ((32 : Int) <= b.toNat) && decide ((b.toNat : Int) <= 126)):=rfl
     by_cases q1 : (b.toNat : Int) < 32
     ·have g3 : decide ((b.toNat : Int) < 32) = true:=by simpa using q1
      have no:=no (by rw [pT];simp only [Bool.and_eq_false_iff,decide_eq_false_iff_not];omega)
      rw [no]
      simp +contextual only [r1,r3,d1,ix,g3,go_sem]
     have g3 : decide ((b.toNat : Int) < 32) = false:=by simpa using q1
     by_cases q2 : (126 : Int) < b.toNat
     ·have g5 : decide ((126 : Int) < b.toNat) = true:=by simpa using q2
      have no:=no (by rw [pT];simp only [Bool.and_eq_false_iff,decide_eq_false_iff_not];omega)
      rw [no]
      simp +contextual only [r1,r3,d1,ix,g3,g5,go_sem]
     have g5 : decide ((126 : Int) < b.toNat) = false:=by simpa using q2
     have nx:=nx (by rw [pT];simp only [Bool.and_eq_true,decide_eq_true_eq];omega)
     simp +contextual only [r1,r3,d1,ix,g3,g5,bT i (by omega),go_sem]
     exact ⟨by omega,nx⟩
    ·have d1 : decide (((i : Nat) : Int) < s.length) = false:=by simp only [decide_eq_false_iff_not];omega
     have ei : i = s.length:=by omega
     rw [ei,List.take_length] at hc
     rw [hc,Bool.true_and]
     rcases tf (decide ((s.length : Int) <= 64)) with d2 | d2 <;> rw [d2] <;> simp +contextual only [r1,r3,d1,d2,go_sem]
   rw [if_neg (by rw [k3];decide)]
   rcases tf (k == 4) with k4 | k4
   ·rw [if_pos k4]
    rcases tf (s == []) with s0 | s0
    ·rcases tf (decide (0 <= n)) with n0 | n0 <;> rw [s0,n0] <;> simp +contextual only [c57,k1,k2,k3,k4,s0,n0,go_sem]
    ·rw [s0];simp +contextual only [c57,k1,k2,k3,k4,s0,go_sem]
   rw [if_neg (by rw [k4];decide)]
   rcases tf (k == 5) with k5 | k5
   ·rw [if_pos k5]
    rcases tf (cD s) with w | w <;> rw [w] <;> rw [w] at p2 <;> simp +contextual only [c57,k1,k2,k3,k4,k5,p2,go_sem]
   ·rw [if_neg (by rw [k5];decide)]
    simp +contextual only [c57,k1,k2,k3,k4,k5,go_sem]
  ·cases h
 ·cases h
def tk : D -> Int
 | .agg [.int .i64 k,.str _,.int .i64 _]=>k
 | _=>0
def ts : D -> List UInt8
 | .agg [.int .i64 _,.str s,.int .i64 _]=>s
 | _=>[]
def tn : D -> Int
 | .agg [.int .i64 _,.str _,.int .i64 n]=>n
 | _=>0
theorem lE (k : Int) (s : List UInt8) (n : Int) : tk (mkT k s n) = k:=rfl
theorem kU (k : Int) (s : List UInt8) (n : Int) : ts (mkT k s n) = s:=rfl
theorem zJ (k : Int) (s : List UInt8) (n : Int) : tn (mkT k s n) = n:=rfl
def bR : D -> Bool
 | .agg [.int .i64 k,.str s,.int .i64 n]=>decide (s.length <= 2 ^ 47) && (decide (-(2 ^ 63) <= k) && decide (k < 2 ^ 63)) && (decide (-(2 ^ 63) <= n) && decide (n < 2 ^ 63))
 | _=>false
theorem n8 {x : D} (h : bR x = true) : ∃ k s n,x = mkT k s n /\ s.length <= 2 ^ 47:=by
 unfold bR at h
 split at h
 ·simp only [Bool.and_eq_true,decide_eq_true_eq] at h
  exact ⟨_,_,_,rfl,h.1.1⟩
 ·cases h
theorem HR {k : Int} {s : List UInt8} {n : Int} (h : bR (mkT k s n) = true) : (-(2 ^ 63) <= k /\ k < 2 ^ 63) /\ -(2 ^ 63) <= n /\ n < 2 ^ 63:=by
 simp only [bR,mkT,Bool.and_eq_true,decide_eq_true_eq] at h
 exact ⟨h.1.2,h.2⟩
def pH (t : D) : Bool:=cG (tk t) (ts t) (tn t)
def okL (l : D) : Bool:=FF l && (elems l).all bR && decide ((elems l).length <= 600)
def zT : D:=mkT 0 [] 0
def wW (toks : List D) (a : Nat) (e : Int) : D:=if e != 0 then zT else match toks[a]? with
 | some t=>if pH t then t else zT
 | none=>zT
theorem l9 {toks : List D} (h : toks.all bR = true) (a : Nat) (e : Int) : ∃ k s n,wW toks a e = mkT k s n /\ s.length <= 2 ^ 47:=by
 unfold wW
 split
 ·exact ⟨0,[],0,rfl,by simp⟩
 ·split
  ·rename_i t ht
   split
   ·exact n8 (List.all_eq_true.1 h t (List.mem_of_getElem? ht))
   ·exact ⟨0,[],0,rfl,by simp⟩
  ·exact ⟨0,[],0,rfl,by simp⟩
def cuQ (H : Hp) (p : Nat) (f : List D -> Nat -> Int -> Option D) : Option D:=match H[p]? with
 | some (.row [l,.int .i64 a,.int .i64 e])=>if okL l = true /\ 0 <= a then f (elems l) a.toNat e else none
 | _=>none
def cuE (H : Hp) (p : Nat) (f : List D -> Nat -> Int -> Option (D × Nat × Int)) : Option (D × Hp):=match H[p]? with
 | some (.row [l,.int .i64 a,.int .i64 e])=>if okL l = true /\ 0 <= a then (match f (elems l) a.toNat e with
  | some (r,a',e')=>some (r,H.set p (.row [l,.int .i64 (a' : Int),.int .i64 e']))
  | none=>none) else none
 | _=>none
abbrev GQ:=List D -> List D -> Nat -> Int -> Option D
abbrev GE:=List D -> List D -> Nat -> Int -> Option (D × Nat × Int)
def φQ (g : GQ) (H : Hp) : List D -> Option D
 | .ptr p 0 :: rest=>cuQ H p (g rest)
 | _=>none
def φC (g : GE) (H : Hp) : List D -> Option (D × Hp)
 | .ptr p 0 :: rest=>cuE H p (g rest)
 | _=>none
section
variable {H : Hp} {p : Nat}
theorem Do (hp : p < H.length) (X : List D) (L : Hp) : (H.set p (.row X) ++ L)[p]? = some (.row X):=by
 rw [List.getElem?_append_left (by simpa using hp),List.getElem?_set_self hp]
theorem JH (hp : p < H.length) (X : List D) : (H.set p (.row X))[p]? = some (.row X):=List.getElem?_set_self hp
theorem fA (hp : p < H.length) (X : List D) (L : Hp) (off : Nat) : eO (H.set p (.row X) ++ L) (.ptr p off) = some (X.drop off):=bN (Do hp X L) off
theorem cU (hp : p < H.length) (X : List D) (off : Nat) : eO (H.set p (.row X)) (.ptr p off) = some (X.drop off):=bN (JH hp X) off
theorem fM {K : D -> S -> Prop} (hp : p < H.length) (X : List D) (L : Hp) (t : Nat -> D) (T : Tk) (n off : Nat) (v : D) : eA n K ⟨t,H.set p (.row X) ++ L,T⟩ (.ptr p off) v = (v.okc = true /\ v.cells.length = n /\ off + n <= X.length /\ K .top ⟨t,H.set p (.row (X.take off ++ v.cells ++ X.drop (off + n))) ++ L,T⟩):=by
 rw [nR (Do hp X L),List.set_append_left _ _ (by simpa using hp),List.set_set]
theorem d9 {K : D -> S -> Prop} (hp : p < H.length) (X : List D) (t : Nat -> D) (T : Tk) (n off : Nat) (v : D) : eA n K ⟨t,H.set p (.row X),T⟩ (.ptr p off) v = (v.okc = true /\ v.cells.length = n /\ off + n <= X.length /\ K .top ⟨t,H.set p (.row (X.take off ++ v.cells ++ X.drop (off + n))),T⟩):=by
 rw [nR (JH hp X),List.set_set]
variable {n : Bool} {xs : List D}
theorem y9 (htk : xs.all bR = true) (hl : xs.length <= 600) : okL (aA n xs) = true:=by
 simp [okL,qX,aQ,htk,hl]
theorem dC (hp : p < H.length) (htk : xs.all bR = true) (hl : xs.length <= 600) (g : GQ) (rest : List D) (a : Nat) (e : Int) (L : Hp) : φQ g (H.set p (.row [aA n xs,.int .i64 ((a : Nat) : Int),.int .i64 e]) ++ L) (.ptr p 0 :: rest) = g rest xs a e:=by
 simp only [φQ,cuQ]
 rw [Do hp]
 simp only
 rw [if_pos ⟨y9 htk hl,by omega⟩,Int.toNat_natCast,aQ]
theorem bY (hp : p < H.length) (htk : xs.all bR = true) (hl : xs.length <= 600) (g : GQ) (rest : List D) (a : Nat) (e : Int) : φQ g (H.set p (.row [aA n xs,.int .i64 ((a : Nat) : Int),.int .i64 e])) (.ptr p 0 :: rest) = g rest xs a e:=by
 have:=dC (n:=n) hp htk hl g rest a e []
 rwa [List.append_nil] at this
def cuR (H : Hp) (p : Nat) (l : D) (L : Hp) : Option (D × Nat × Int) -> Option (D × Hp)
 | some (r,a,e)=>some (r,H.set p (.row [l,.int .i64 ((a : Nat) : Int),.int .i64 e]) ++ L)
 | none=>none
@[go_sem] theorem A1N (H : Hp) (p : Nat) (l : D) (L : Hp) (r : D) (a : Nat) (e : Int) : cuR H p l L (some (r,a,e)) = some (r,H.set p (.row [l,.int .i64 ((a : Nat) : Int),.int .i64 e]) ++ L):=id rfl
theorem cV (hp : p < H.length) (htk : xs.all bR = true) (hl : xs.length <= 600) (g : GE) (rest : List D) (a : Nat) (e : Int) (L : Hp) : φC g (H.set p (.row [aA n xs,.int .i64 ((a : Nat) : Int),.int .i64 e]) ++ L) (.ptr p 0 :: rest) = cuR H p (aA n xs) L (g rest xs a e):=by
 simp only [φC,cuE]
 rw [Do hp]
 simp only
 rw [if_pos ⟨y9 htk hl,by omega⟩,Int.toNat_natCast,aQ]
 cases g rest xs a e with
 | none=>rfl
 | some r =>
  simp only [cuR]
  rw [List.set_append_left _ _ (by simpa using hp),List.set_set]
theorem cC (hp : p < H.length) (htk : xs.all bR = true) (hl : xs.length <= 600) (g : GE) (rest : List D) (a : Nat) (e : Int) : φC g (H.set p (.row [aA n xs,.int .i64 ((a : Nat) : Int),.int .i64 e])) (.ptr p 0 :: rest) = cuR H p (aA n xs) [] (g rest xs a e):=by
 have:=cV (n:=n) hp htk hl g rest a e []
 rwa [List.append_nil] at this
end
@[go_sem] theorem QS (H : Hp) (p : Nat) (x : Ob) (L : Hp) (n off : Nat) : eO (H.set p x ++ L) (.ptr (H.length + n) off) = eO L (.ptr n off):=by
 have:=v8 (H.set p x) L n off
 rwa [List.length_set] at this
@[go_sem] theorem Z2 (H : Hp) (p : Nat) (x : Ob) (L : Hp) (off : Nat) : eO (H.set p x ++ L) (.ptr H.length off) = eO L (.ptr 0 off):=QS H p x L 0 off
@[go_sem] theorem R1 {K : D -> S -> Prop} (t : Nat -> D) (T : Tk) (H : Hp) (p : Nat) (x : Ob) (L : Hp) (n i off : Nat) (v : D) : eA n K ⟨t,H.set p x ++ L,T⟩ (.ptr (H.length + i) off) v = zR K t (H.set p x) T (putRow n off v L i):=by
 have:=HH (K:=K) t T (H.set p x) L n i off v
 rwa [List.length_set] at this
@[go_sem] theorem Yr {K : D -> S -> Prop} (t : Nat -> D) (T : Tk) (H : Hp) (p : Nat) (x : Ob) (L : Hp) (n off : Nat) (v : D) : eA n K ⟨t,H.set p x ++ L,T⟩ (.ptr H.length off) v = zR K t (H.set p x) T (putRow n off v L 0):=R1 t T H p x L n 0 off v
@[go_sem] theorem SW (o f : Nat) : Ga (.ptr o f) = some (.ptr o f):=id rfl
attribute [go_sem] List.length_set
theorem GZ {l : D} (h : okL l = true) : ∃ n xs,l = aA n xs /\ xs.all bR = true /\ xs.length <= 600:=by
 simp only [okL,Bool.and_eq_true,decide_eq_true_eq] at h
 obtain ⟨n,hn⟩:=n7 h.1.1
 exact ⟨n,elems l,hn,h.1.2,h.2⟩
theorem Fy {H : Hp} {p : Nat} {f : List D -> Nat -> Int -> Option D} {r : D} (h : cuQ H p f = some r) : ∃ n xs a e,H[p]? = some (.row [aA n xs,.int .i64 ((a : Nat) : Int),.int .i64 e]) /\ p < H.length /\ xs.all bR = true /\ xs.length <= 600 /\ f xs a e = some r:=by
 unfold cuQ at h
 split at h
 ·rename_i l a e hH
  split at h
  ·rename_i hc
   obtain ⟨h1,h2⟩:=hc
   obtain ⟨k,rfl⟩ : ∃ n : Nat,a = (n : Int):=⟨a.toNat,by omega⟩
   obtain ⟨n,xs,rfl,htk,hl⟩:=GZ h1
   rw [Int.toNat_natCast,aQ] at h
   refine ⟨n,xs,k,e,hH,?_,htk,hl,h⟩
   rcases Nat.lt_or_ge p H.length with h' | h'
   ·exact h'
   ·rw [List.getElem?_eq_none h'] at hH;cases hH
  ·cases h
 ·cases h
theorem Br {H : Hp} {p : Nat} {f : List D -> Nat -> Int -> Option (D × Nat × Int)} {x : D × Hp} (h : cuE H p f = some x) : ∃ n xs a e r a' e',H[p]? = some (.row [aA n xs,.int .i64 ((a : Nat) : Int),.int .i64 e]) /\ p < H.length /\ xs.all bR = true /\ xs.length <= 600 /\ f xs a e = some (r,a',e') ∧
  x = (r,H.set p (.row [aA n xs,.int .i64 ((a' : Nat) : Int),.int .i64 e'])):=by
 unfold cuE at h
 split at h
 ·rename_i l a e hH
  split at h
  ·rename_i hc
   obtain ⟨h1,h2⟩:=hc
   obtain ⟨k,rfl⟩ : ∃ n : Nat,a = (n : Int):=⟨a.toNat,by omega⟩
   obtain ⟨n,xs,rfl,htk,hl⟩:=GZ h1
   rw [Int.toNat_natCast,aQ] at h
   split at h
   ·rename_i r a' e' hf
    injection h with h
    refine ⟨n,xs,k,e,r,a',e',hH,?_,htk,hl,hf,h.symm⟩
    rcases Nat.lt_or_ge p H.length with h' | h'
    ·exact h'
    ·rw [List.getElem?_eq_none h'] at hH;cases hH
   ·cases h
  ·cases h
 ·cases h
theorem LQ {p : Nat} {f : List D -> Nat -> Int -> Option D} {H H' : Hp} {r : D} (hl : Hle H H') (h : cuQ H p f = some r) : cuQ H' p f = some r:=by
 obtain ⟨n,xs,a,e,h1,h2,h3,h4,h5⟩:=Fy h
 have h1':=hl p _ h1 rfl
 unfold cuQ
 rw [h1']
 simp only
 rw [if_pos ⟨y9 h3 h4,by omega⟩,Int.toNat_natCast,aQ]
 exact h5
theorem lI (g : GQ) (H H' : Hp) (a : List D) (r : D) (hl : Hle H H') (h : φQ g H a = some r) : φQ g H' a = some r:=by
 unfold φQ at h ⊢
 split at h
 ·exact LQ hl h
 ·cases h
theorem z6 {xs : List D} (h : xs.all bR = true) : D.eraseL xs = xs:=bB fun x hx=>by
 obtain ⟨k,s,n,rfl,_⟩:=n8 (List.all_eq_true.1 h x hx)
 simp [mkT,D.erase,D.eraseL]
theorem Ey {n : Bool} {xs : List D} (h : xs.all bR = true) (i j : Nat) : (aA n xs).cl i j = true:=by
 have : D.clL i j xs = true:=jS fun d hd=>by
  obtain ⟨k,s,n,rfl,_⟩:=n8 (List.all_eq_true.1 h d hd)
  simp [mkT,D.cl,D.clL]
 rcases aU n xs with ⟨e,_⟩ | e <;> simp [e,D.cl,this]
theorem L2 {l : Fs} {m : FsH} {ee : FsE} (hl : Ok Tryz.prog l) (hm : OkH Tryz.prog m) (hE : OkE Tryz.prog ee) {f : FuncId} {k : Nat} {rs : List (Sum Nat (Nat × Bool × Nat))} {cc : C} (hf : Fn Tryz.prog f k rs cc) {g : GQ}
  (h : ∀ (H : Hp) (p : Nat) (n : Bool) (xs : List D) (a : Nat) (e : Int) (rest : List D) (r : D),p < H.length -> xs.all bR = true -> xs.length <= 600 -> g rest xs a e = some r -> rest.length + 1 <= k /\ r.cl 0 0 = true ∧
   ∀ T,W (XE l m ee) cc (mW rs (dB r (H.set p (.row [aA n xs,.int .i64 ((a : Nat) : Int),.int .i64 e])) T)) ⟨bF (.ptr p 0 :: rest),H.set p (.row [aA n xs,.int .i64 ((a : Nat) : Int),.int .i64 e]),T⟩) : B1 Tryz.prog f (φQ g):=by
 refine Na hl hm hE hf fun H args r hr=>?_
 unfold φQ at hr
 split at hr
 ·rename_i p rest
  obtain ⟨n,xs,a,e,h1,h2,h3,h4,h5⟩:=Fy hr
  obtain ⟨k1,k2,k3⟩:=h H p n xs a e rest r h2 h3 h4 h5
  refine ⟨by simpa using k1,D.cl_mono (Nat.zero_le _) (Nat.le_refl _) r k2,fun T=>?_⟩
  have:=k3 T
  rw [nP h1] at this
  exact this
 ·cases hr
theorem dF {l : Fs} {m : FsH} {ee : FsE} (hl : Ok Tryz.prog l) (hm : OkH Tryz.prog m) (hE : OkE Tryz.prog ee) {f : FuncId} {k : Nat} {rs : List (Sum Nat (Nat × Bool × Nat))} {cc : C} (hf : Fn Tryz.prog f k rs cc) {g : GE}
  (h : ∀ (H : Hp) (p : Nat) (n : Bool) (xs : List D) (a : Nat) (e : Int) (rest : List D) (r : D) (a' : Nat) (e' : Int),p < H.length -> xs.all bR = true -> xs.length <= 600 -> g rest xs a e = some (r,a',e') -> rest.length + 1 <= k /\ r.cl 0 0 = true ∧
   ∀ T,W (XE l m ee) cc (mW rs (dB r (H.set p (.row [aA n xs,.int .i64 ((a' : Nat) : Int),.int .i64 e'])) T)) ⟨bF (.ptr p 0 :: rest),H.set p (.row [aA n xs,.int .i64 ((a : Nat) : Int),.int .i64 e]),T⟩) : bK Tryz.prog f (φC g):=by
 refine Dj hl hm hE hf fun H args r H1 hr=>?_
 unfold φC at hr
 split at hr
 ·rename_i p rest
  obtain ⟨n,xs,a,e,r',a',e',h1,h2,h3,h4,h5,h6⟩:=Br hr
  injection h6 with h6 h7
  subst h6;subst h7
  obtain ⟨k1,k2,k3⟩:=h H p n xs a e rest r a' e' h2 h3 h4 h5
  refine ⟨by simpa using k1,D.cl_mono (Nat.zero_le _) (Nat.le_refl _) r k2,⟨by simp,fun o x cs hx hc=>?_⟩,fun T=>?_⟩
  ·by_cases ho : o = p
   ·subst ho
    rw [List.getElem?_set_self h2] at hx
    injection hx with hx;subst hx
    injection hc with hc;subst hc
    refine .inr ?_
    simp only [D.clL,Ey h3,D.cl,Bool.and_self]
   ·rw [List.getElem?_set_ne (fun e=>ho e.symm)] at hx
    exact .inl hx
  ·have:=k3 T
   rw [nP h1] at this
   exact this
 ·cases hr
def kK : GQ:=fun rest toks a e=>match rest with
 | []=>some (wW toks a e)
 | _=>none
set_option maxHeartbeats 4000000 in
theorem J8 : B1 Tryz.prog 177 (φQ kK):=by
 refine L2 (l:=[(166,dL)]) (m:=[]) (ee:=[]) (.cons VY .nil) .nil .nil Td fun H p n xs a e rest r hp htk hlen h=>?_
 have hM : cQ []:=.nil
 unfold kK at h
 split at h
 ·injection h with h;subst h
  obtain ⟨k0,s0,n0,e0,_⟩:=l9 htk a e
  refine ⟨by simp,by rw [e0];rfl,fun T=>?_⟩
  have rc:=fun X L off=>fA (p:=p) hp X L off
  by_cases he : (e != 0) = true
  ·have g : wW xs a e = zT:=by unfold wW;rw [if_pos he]
   rw [g]
   simp +contextual only [NO,rc,he,go_sem]
   exact lvM
  ·have he0 : (e != 0) = false:=by simpa using he
   rcases Nat.lt_or_ge a xs.length with hlt | hge
   ·have d1 : decide ((xs.length : Int) <= (a : Nat)) = false:=by simp only [decide_eq_false_iff_not];omega
    obtain ⟨k,s,m,e1,hs⟩:=n8 (List.all_eq_true.1 htk _ (List.getElem_mem hlt))
    have ex : xs[a]? = some (mkT k s m):=by rw [List.getElem?_eq_getElem hlt,e1]
    have pf : dL [mkT k s m] = some (.bool (cG k s m)):=by simp only [dL,mkT];rw [if_pos (by omega)]
    simp only [mkT] at pf ex
    have g : wW xs a e = if cG k s m then mkT k s m else zT:=by
     unfold wW
     rw [if_neg (by rw [he0];decide),ex]
     rfl
    rw [g]
    rcases tf (cG k s m) with gf | gf
    ·rw [gf,if_pos rfl]
     rw [gf] at pf
     simp +contextual only [NO,rc,he0,d1,ex,pf,cH hM,go_sem]
     exact lvM
    ·rw [gf,if_neg (by decide)]
     rw [gf] at pf
     simp +contextual only [NO,rc,he0,d1,ex,pf,cH hM,go_sem]
     exact lvM
   ·have d1 : decide ((xs.length : Int) <= (a : Nat)) = true:=by simp only [decide_eq_true_eq];omega
    have g : wW xs a e = zT:=by
     unfold wW
     rw [if_neg (by rw [he0];decide),List.getElem?_eq_none (by omega)]
    rw [g]
    simp +contextual only [NO,rc,he0,d1,go_sem]
    exact lvM
 ·cases h
abbrev St:=Nat × Int
def bI (toks : List D) (st : St) : D:=wW toks st.1 st.2
def isP (toks : List D) (st : St) (s : List UInt8) : Bool:=((tk (bI toks st) == 1) || (tk (bI toks st) == 5)) && (ts (bI toks st) == s)
def bO (at_ : Nat) (err : Int) (st : St) : St:=if st.2 == 0 then (at_,err) else st
def aD (toks : List D) (s : List UInt8) (st : St) : St:=if isP toks st s then (st.1 + 1,st.2) else bO st.1 2 st
def gIs : GQ:=fun rest toks a e=>match rest with
 | [.str s]=>some (.bool (isP toks (a,e) s))
 | _=>none
def cR : GE:=fun rest toks a e=>match rest with
 | [.str s]=>some (if isP toks (a,e) s then (.bool true,a + 1,e) else (.bool false,a,e))
 | _=>none
def jE : GE:=fun rest _ a e=>match rest with
 | [.int .i64 n,.int .i64 err]=>if 0 <= n then some (.tup [],bO n.toNat err (a,e)) else none
 | _=>none
def bV : GE:=fun rest toks a e=>match rest with
 | [.str s]=>some (.tup [],aD toks s (a,e))
 | _=>none
theorem vP {toks : List D} {a : Nat} {e : Int} (h : tk (wW toks a e) ≠ 0) : a < toks.length /\ e = 0:=by
 unfold wW at h
 split at h
 ·exact absurd rfl h
 ·rename_i he
  refine ⟨?_,by simpa using he⟩
  split at h
  ·rename_i t ht
   rcases Nat.lt_or_ge a toks.length with h' | h'
   ·exact h'
   ·rw [List.getElem?_eq_none h'] at ht;cases ht
  ·exact absurd rfl h
theorem yI {toks : List D} {st : St} {s : List UInt8} (h : isP toks st s = true) : st.1 < toks.length /\ st.2 = 0:=by
 unfold isP at h
 simp only [Bool.and_eq_true,Bool.or_eq_true,beq_iff_eq] at h
 refine vP (toks:=toks) (a:=st.1) (e:=st.2) ?_
 unfold bI at h
 omega
theorem Dh {a : Nat} (h : a < 601) : IntKind.i64.wrap ((a : Nat) + 1 : Int) = ((a + 1 : Nat) : Int):=by
 rw [show ((a : Nat) + 1 : Int) = ((a + 1 : Nat) : Int) by omega];exact eH _ (by omega) (by omega)
theorem Lz : B1 Tryz.prog 117 (φQ gIs):=by
 have hM : cQ [(177,φQ kK)]:=.cons (lI kK) .nil
 refine L2 (l:=[]) (m:=[(177,φQ kK)]) (ee:=[]) .nil (.cons J8 .nil) .nil XT fun H p n xs a e rest r hp htk hlen h=>?_
 unfold gIs at h
 split at h
 ·rename_i s
  injection h with h;subst h
  refine ⟨by simp,by simp [D.cl],fun T=>?_⟩
  have qa0:=fun g rest a e=>bY (n:=n) hp htk hlen g rest a e
  obtain ⟨k0,s0,m0,e0,_⟩:=l9 htk a e
  have g : isP xs (a,e) s = (((k0 == 1) || (k0 == 5)) && (s0 == s)):=by simp only [isP,bI,e0,lE,kU]
  rw [g]
  have e0':=e0
  simp only [mkT] at e0'
  simp +contextual only [X5,qa0,kK,e0',cH hM,go_sem]
  all_goals ((repeat' (first | apply And.intro | intro _)) <;> (first | omega | exact lvM))
 ·cases h
theorem xN : bK Tryz.prog 69 (φC cR):=by
 have hM : cQ [(117,φQ gIs)]:=.cons (lI gIs) .nil
 refine dF (l:=[]) (m:=[(117,φQ gIs)]) (ee:=[]) .nil (.cons Lz .nil) .nil A0a fun H p n xs a e rest r a' e' hp htk hlen h=>?_
 unfold cR at h
 split at h
 ·rename_i s
  have qa0:=fun g rest a e=>bY (n:=n) hp htk hlen g rest a e
  have rc0:=fun X off=>cU (p:=p) hp X off
  have sc0:=fun (K : D -> S -> Prop) X t T n off v=>d9 (p:=p) (K:=K) hp X t T n off v
  rcases tf (isP xs (a,e) s) with g | g
  ·rw [g] at h
   injection h with h;injection h with h1 h2;injection h2 with h2 h3
   subst h1;subst h2;subst h3
   have hlt:=(yI g).1
   have w:=Dh (a:=a) (by simp only at hlt;omega)
   refine ⟨by simp,by simp [D.cl],fun T=>?_⟩
   simp +contextual only [c69,qa0,gIs,g,cH hM,rc0,sc0,w,go_sem]
   all_goals ((repeat' (first | apply And.intro | intro _)) <;> (first | omega | exact lvM))
  ·rw [g] at h
   injection h with h;injection h with h1 h2;injection h2 with h2 h3
   subst h1;subst h2;subst h3
   refine ⟨by simp,by simp [D.cl],fun T=>?_⟩
   simp +contextual only [c69,qa0,gIs,g,cH hM,go_sem]
   all_goals ((repeat' (first | apply And.intro | intro _)) <;> (first | omega | exact lvM))
 ·cases h
theorem yV : bK Tryz.prog 105 (φC jE):=by
 refine dF (l:=[]) (m:=[]) (ee:=[]) .nil .nil .nil W0 fun H p n xs a e rest r a' e' hp htk hlen h=>?_
 unfold jE at h
 split at h
 ·rename_i m err
  split at h
  ·rename_i hm
   obtain ⟨k,rfl⟩ : ∃ k : Nat,m = (k : Int):=⟨m.toNat,by omega⟩
   rw [Int.toNat_natCast] at h
   injection h with h;injection h with h1 h2
   subst h1
   have rc0:=fun X off=>cU (p:=p) hp X off
   have sc0:=fun (K : D -> S -> Prop) X t T n off v=>d9 (p:=p) (K:=K) hp X t T n off v
   refine ⟨by simp,by simp [D.cl,D.clL],fun T=>?_⟩
   rcases tf (e == 0) with g | g
   ·have f : bO k err (a,e) = (k,err):=by unfold bO;rw [g];rfl
    rw [f] at h2;injection h2 with h2 h3;subst h2;subst h3
    simp +contextual only [Qs,rc0,sc0,g,go_sem]
    all_goals ((repeat' (first | apply And.intro | intro _)) <;> (first | omega | exact lvM))
   ·have f : bO k err (a,e) = (a,e):=by unfold bO;rw [g];rfl
    rw [f] at h2;injection h2 with h2 h3;subst h2;subst h3
    simp +contextual only [Qs,rc0,sc0,g,go_sem]
    all_goals ((repeat' (first | apply And.intro | intro _)) <;> (first | omega | exact lvM))
  ·cases h
 ·cases h
theorem G3 : bK Tryz.prog 71 (φC bV):=by
 have hM : cQ []:=.nil
 refine dF (l:=[]) (m:=[]) (ee:=[(69,φC cR),(105,φC jE)]) .nil .nil (.cons xN (.cons yV .nil)) A0l fun H p n xs a e rest r a' e' hp htk hlen h=>?_
 unfold bV at h
 split at h
 ·rename_i s
  injection h with h;injection h with h1 h2
  subst h1
  have ca0:=fun g rest a e=>cC (n:=n) hp htk hlen g rest a e
  have rc0:=fun X off=>cU (p:=p) hp X off
  refine ⟨by simp,by simp [D.cl,D.clL],fun T=>?_⟩
  rcases tf (isP xs (a,e) s) with g | g
  ·have f : aD xs s (a,e) = (a + 1,e):=by unfold aD;rw [g];rfl
   rw [f] at h2;injection h2 with h2 h3;subst h2;subst h3
   simp +contextual only [c71,ca0,cR,g,go_sem]
   all_goals ((repeat' (first | apply And.intro | intro _)) <;> (first | omega | exact lvM))
  ·have f : aD xs s (a,e) = bO a 2 (a,e):=by unfold aD;rw [g];rfl
   rw [f] at h2
   obtain ⟨a1,e1⟩ : ∃ y : St,bO a 2 (a,e) = y:=⟨_,rfl⟩
   have hf : jE [.int .i64 (a : Nat),.int .i64 2] xs a e = some (.tup [],bO a 2 (a,e)):=by simp only [jE];rw [if_pos (by omega),Int.toNat_natCast]
   obtain ⟨y1,y2,hy⟩ : ∃ y1 y2,bO a 2 (a,e) = (y1,y2):=⟨_,_,rfl⟩
   rw [hy] at hf h2
   injection h2 with h2 h3;subst h2;subst h3
   simp +contextual only [c71,ca0,cR,g,rc0,hf,go_sem]
   all_goals ((repeat' (first | apply And.intro | intro _)) <;> (first | omega | exact lvM))
 ·cases h
def cL (toks : List D) (k : Int) (st : St) : D × St:=if tk (bI toks st) != k then (zT,bO st.1 2 st) else (bI toks st,(st.1 + 1,st.2))
def j0 : GE:=fun rest toks a e=>match rest with
 | [.int .i64 k]=>if k == 0 then none else some (cL toks k (a,e))
 | _=>none
theorem pR (a : Nat) (err : Int) (toks : List D) (e : Int) : jE [.int .i64 (a : Nat),.int .i64 err] toks a e = some (.tup [],bO a err (a,e)):=by
 simp only [jE];rw [if_pos (by omega),Int.toNat_natCast]
theorem Gd (m : Nat) (err : Int) (toks : List D) (a : Nat) (e : Int) : jE [.int .i64 (m : Nat),.int .i64 err] toks a e = some (.tup [],bO m err (a,e)):=by
 simp only [jE];rw [if_pos (by omega),Int.toNat_natCast]
theorem wA {toks : List D} (h : toks.all bR = true) (k : Int) (st : St) : ∃ k0 s0 n0,(cL toks k st).1 = mkT k0 s0 n0 /\ s0.length <= 2 ^ 47:=by
 unfold cL
 split
 ·exact ⟨0,[],0,rfl,by simp⟩
 ·exact l9 h _ _
theorem Fd : bK Tryz.prog 120 (φC j0):=by
 have hM : cQ [(177,φQ kK)]:=.cons (lI kK) .nil
 refine dF (l:=[]) (m:=[(177,φQ kK)]) (ee:=[(105,φC jE)]) .nil (.cons J8 .nil) (.cons yV .nil) Tc fun H p n xs a e rest r a' e' hp htk hlen h=>?_
 unfold j0 at h
 split at h
 ·rename_i k
  split at h
  ·cases h
  ·rename_i hk0
   have hk0 : k ≠ 0:=by simpa using hk0
   injection h with h
   obtain ⟨k0,s0,m0,e0,_⟩:=l9 htk a e
   have qa:=dC (n:=n) hp htk hlen;have qa0:=bY (n:=n) hp htk hlen;have ca:=cV (n:=n) hp htk hlen;have ca0:=cC (n:=n) hp htk hlen;have rc:=fA hp;have rc0:=cU hp;have sc:=fun K : D -> S -> Prop=>fM (K:=K) hp;have sc0:=fun K : D -> S -> Prop=>d9 (K:=K) hp
   have e0':=e0
   simp only [mkT] at e0'
   rcases tf (k0 != k) with g | g
   ·have f : cL xs k (a,e) = (zT,bO a 2 (a,e)):=by simp only [cL,bI,e0,lE];rw [if_pos g]
    rw [f] at h
    obtain ⟨y1,y2,hy⟩ : ∃ y1 y2,bO a 2 (a,e) = (y1,y2):=⟨_,_,rfl⟩
    have hf:=pR a 2 xs e
    rw [hy] at hf h
    injection h with h1 h2;injection h2 with h2 h3
    subst h1;subst h2;subst h3
    refine ⟨by simp,rfl,fun T=>?_⟩
    simp +contextual only [qa,qa0,ca,ca0,rc,rc0,sc,sc0,R2,kK,e0',cH hM,g,hf,go_sem]
    all_goals ((repeat' (first | apply And.intro | intro _)) <;> (first | omega | exact lvM))
   ·have f : cL xs k (a,e) = (mkT k0 s0 m0,(a + 1,e)):=by simp only [cL,bI,e0,lE];rw [if_neg (by rw [g];decide)]
    rw [f] at h
    have hlt:=vP (toks:=xs) (a:=a) (e:=e) (by rw [e0,lE];have : k0 = k:=(by simpa using g);omega)
    have w:=Dh (a:=a) (by omega)
    injection h with h1 h2;injection h2 with h2 h3
    subst h1;subst h2;subst h3
    refine ⟨by simp,rfl,fun T=>?_⟩
    simp only [mkT]
    simp +contextual only [qa,qa0,ca,ca0,rc,rc0,sc,sc0,R2,kK,e0',cH hM,g,w,go_sem]
    all_goals ((repeat' (first | apply And.intro | intro _)) <;> (first | omega | exact lvM))
 ·cases h
def iY : List (List UInt8):=[[102,97,99,116],[116,114,117,116,104],[110,117,109,98,101,114],[116,101,120,116],[116,105,109,101],[98,97,103],[117,115,101],[112,111,108,105,99,121],[98,121],[102,111,114],[112,101,114,109,105,116],[100,101,110,121],[105,102],[100,117,116,121],[97,100,118,105,99,101],[116,114,117,101],[102,97,108,115,101],[110,111,119],[111,114],[97,110,100],[110,111,116],[105,110],[104,97,115],[114,111,108,101],[115,105,122,101],[115,117,98,106,101,99,116],[114,101,115,111,117,114,99,101],[97,99,116,105,111,110],[101,110,118]]
def zB (s : List UInt8) : Bool:=iY.any (fun x=>s == x)
def mE : List D -> Option D
 | []=>some (.sl none (iY.map .str))
 | _=>none
theorem ZI : aO Tryz.prog 48 mE:=by
 refine aG (l:=[]) .nil A1e fun args r h=>?_
 unfold mE at h
 split at h
 ·injection h with h;subst h
  refine ⟨by simp,by decide,fun H T=>?_⟩
  simp +contextual only [c48,go_sem]
  first | rfl | simp only [iY,List.map_cons,List.map_nil,D.erase,D.eraseL]
 ·cases h
theorem A0J : aO Tryz.prog 16 mE:=by
 refine aG (l:=[]) .nil Z7 fun args r h=>?_
 unfold mE at h
 split at h
 ·injection h with h;subst h
  refine ⟨by simp,by decide,fun H T=>?_⟩
  simp +contextual only [c16,go_sem]
  first | rfl | simp only [iY,List.map_cons,List.map_nil,D.erase,D.eraseL]
 ·cases h
theorem Kg (s : List UInt8) : gR [.sl none (iY.map .str),.str s] = some (.bool (zB s)):=by
 have hL : zM Jo (.sl none (iY.map D.str)):=⟨false,iY.map D.str,rfl,by decide,fun x hx=>by
  obtain ⟨y,hy,rfl⟩:=List.mem_map.1 hx
  have key : ∀ y ∈ iY,y.length <= 2 ^ 47:=by decide
  exact ⟨y,rfl,key y hy⟩⟩
 simp only [gR]
 rw [if_pos hL]
 congr 2
def EF : List D -> Option D
 | [.str s]=>some (.bool (zB s))
 | _=>none
theorem ZO : aO Tryz.prog 17 EF:=by
 refine aG (l:=[(48,mE),(47,gR)]) (.cons ZI (.cons M3 .nil)) Zy fun args r h=>?_
 unfold EF at h
 split at h
 ·rename_i s
  injection h with h;subst h
  have p1 : mE [] = some (.sl none (iY.map .str)):=rfl
  have p2:=Kg s
  have e1 : D.eraseL [.sl none (iY.map D.str),.str s] = [.sl none (iY.map D.str),.str s]:=by simp only [D.eraseL,D.erase,bB (l:=iY.map D.str) (fun x hx=>by obtain ⟨y,_,rfl⟩:=List.mem_map.1 hx;rfl)]
  obtain ⟨ks,hk⟩ : ∃ ks,iY.map D.str = ks:=⟨_,rfl⟩
  rw [hk] at p1 p2 e1
  refine ⟨by simp,by simp [D.cl],fun H T=>?_⟩
  simp +contextual only [c17,p1,p2,e1,go_sem]
 ·cases h
def cS (toks : List D) (st : St) : List UInt8 × St:=if (tk (bI toks st) != 1) || zB (ts (bI toks st)) then ([],bO st.1 2 st) else (ts (bI toks st),(st.1 + 1,st.2))
def kB : GE:=fun rest toks a e=>match rest with
 | []=>some (.str (cS toks (a,e)).1,(cS toks (a,e)).2)
 | _=>none
theorem L9 : bK Tryz.prog 121 (φC kB):=by
 have hM : cQ [(177,φQ kK)]:=.cons (lI kK) .nil
 refine dF (l:=[(17,EF)]) (m:=[(177,φQ kK)]) (ee:=[(105,φC jE),(120,φC j0)]) (.cons ZO .nil) (.cons J8 .nil) (.cons yV (.cons Fd .nil)) UX fun H p n xs a e rest r a' e' hp htk hlen h=>?_
 unfold kB at h
 split at h
 ·injection h with h
  obtain ⟨k0,s0,m0,e0,_⟩:=l9 htk a e
  have qa:=dC (n:=n) hp htk hlen;have qa0:=bY (n:=n) hp htk hlen;have ca:=cV (n:=n) hp htk hlen;have ca0:=cC (n:=n) hp htk hlen;have rc:=fA hp;have rc0:=cU hp;have sc:=fun K : D -> S -> Prop=>fM (K:=K) hp;have sc0:=fun K : D -> S -> Prop=>d9 (K:=K) hp
  have e0':=e0
  simp only [mkT] at e0'
  have pk : EF [.str s0] = some (.bool (zB s0)):=rfl
  rcases tf ((k0 != 1) || zB s0) with g | g
  ·have f : cS xs (a,e) = ([],bO a 2 (a,e)):=by simp only [cS,bI,e0,lE,kU];rw [if_pos g]
   rw [f] at h
   obtain ⟨y1,y2,hy⟩ : ∃ y1 y2,bO a 2 (a,e) = (y1,y2):=⟨_,_,rfl⟩
   have hf:=pR a 2 xs e
   rw [hy] at hf h
   injection h with h1 h2;injection h2 with h2 h3
   subst h1;subst h2;subst h3
   refine ⟨by simp,by simp [D.cl],fun T=>?_⟩
   rcases tf (k0 != 1) with g1 | g1
   ·simp +contextual only [qa,qa0,ca,ca0,rc,rc0,sc,sc0,OW,kK,e0',cH hM,g1,hf,go_sem]
    all_goals ((repeat' (first | apply And.intro | intro _)) <;> (first | omega | exact lvM))
   ·have g2 : zB s0 = true:=by rw [g1] at g;simpa using g
    rw [g2] at pk
    simp +contextual only [qa,qa0,ca,ca0,rc,rc0,sc,sc0,OW,kK,e0',cH hM,g1,pk,hf,go_sem]
    all_goals ((repeat' (first | apply And.intro | intro _)) <;> (first | omega | exact lvM))
  ·have f : cS xs (a,e) = (s0,(a + 1,e)):=by simp only [cS,bI,e0,lE,kU];rw [if_neg (by rw [g];decide)]
   rw [f] at h
   injection h with h1 h2;injection h2 with h2 h3
   subst h1;subst h2;subst h3
   simp only [Bool.or_eq_false_iff] at g
   obtain ⟨g1,g2⟩:=g
   rw [g2] at pk
   have hk : j0 [.int .i64 1] xs a e = some (mkT k0 s0 m0,a + 1,e):=by
    simp only [j0,cL,bI,e0,lE]
    rw [if_neg (by decide),if_neg (by rw [g1];decide)]
   simp only [mkT] at hk
   refine ⟨by simp,by simp [D.cl],fun T=>?_⟩
   simp +contextual only [qa,qa0,ca,ca0,rc,rc0,sc,sc0,OW,kK,e0',cH hM,g1,pk,hk,go_sem]
   all_goals ((repeat' (first | apply And.intro | intro _)) <;> (first | omega | exact lvM))
 ·cases h
def oF : D -> Bool
 | .str _=>true
 | _=>false
def gY : D -> List UInt8
 | .str s=>s
 | _=>[]
def fX (toks : List D) (st : St) : List (List UInt8) -> Option (List UInt8)
 | []=>none
 | w :: r=>if isP toks st w then some w else fX toks st r
def dT (toks : List D) (ws : List (List UInt8)) (st : St) : List UInt8 × St:=match fX toks st ws with
 | some w=>(w,(st.1 + 1,st.2))
 | none=>([],bO st.1 2 st)
def zV : GE:=fun rest toks a e=>match rest with
 | [.sl none ds]=>if ds.all oF = true /\ ds.length <= 100 then some (.str (dT toks (ds.map gY) (a,e)).1,(dT toks (ds.map gY) (a,e)).2) else none
 | _=>none
theorem mJ {toks : List D} {st : St} : ∀ {ws : List (List UInt8)},(∀ w ∈ ws,isP toks st w = false) -> fX toks st ws = none
 | [],_=>rfl
 | w :: r,h=>by
  simp only [fX];rw [if_neg (by rw [h w (by simp)];decide)]
  exact mJ fun x hx=>h x (by simp [hx])
theorem rG {toks : List D} {st : St} : ∀ {ws : List (List UInt8)} {i : Nat} {w : List UInt8},ws[i]? = some w -> (∀ j u,j < i -> ws[j]? = some u -> isP toks st u = false) -> isP toks st w = true -> fX toks st ws = some w
 | [],i,w,h,_,_=>by simp at h
 | x :: r,0,w,h,_,h2=>by
  simp only [List.getElem?_cons_zero,Option.some.injEq] at h;subst h
  simp only [fX];rw [if_pos h2]
 | x :: r,i + 1,w,h,h1,h2=>by
  simp only [fX];rw [if_neg (by rw [h1 0 x (by omega) rfl];decide)]
  exact rG (by simpa using h) (fun j u hj hu=>h1 (j + 1) u (by omega) (by simpa using hu)) h2
theorem NS : bK Tryz.prog 119 (φC zV):=by
 have hM : cQ []:=.nil
 refine dF (l:=[]) (m:=[]) (ee:=[(69,φC cR),(105,φC jE)]) .nil .nil (.cons xN (.cons yV .nil)) Xh fun H p n xs a e rest r a' e' hp htk hlen h=>?_
 unfold zV at h
 split at h
 ·rename_i ds
  split at h
  ·rename_i hd
   obtain ⟨hd,hdl⟩:=hd
   injection h with h
   have qa:=dC (n:=n) hp htk hlen;have qa0:=bY (n:=n) hp htk hlen;have ca:=cV (n:=n) hp htk hlen;have ca0:=cC (n:=n) hp htk hlen;have rc:=fA hp;have rc0:=cU hp;have sc:=fun K : D -> S -> Prop=>fM (K:=K) hp;have sc0:=fun K : D -> S -> Prop=>d9 (K:=K) hp
   have hstr : ∀ (i : Nat) (hi : i < ds.length),ds[i]? = some (.str (gY ds[i])):=fun i hi=>by
    have:=List.all_eq_true.1 hd _ (List.getElem_mem hi)
    rw [List.getElem?_eq_getElem hi]
    cases hx : ds[i] <;> rw [hx] at this <;> simp [oF] at this <;> rfl
   refine ⟨by simp,?_,fun T=>?_⟩
   ·injection h with h1 h2;subst h1;rfl
   simp +contextual only [qa,qa0,ca,ca0,rc,rc0,sc,sc0,Sb,go_sem]
   refine bG (fun i s'=>s'.t 0 = .ptr p 0 /\ s'.t 7 = .sl none ds /\ s'.t 8 = .int .i64 ds.length /\ s'.t 9 = .int .i64 (i : Nat) /\ s'.H = H.set p (.row [aA n xs,.int .i64 ((a : Nat) : Int),.int .i64 e]) /\ s'.T = T /\ i <= ds.length /\ ∀ j u,j < i -> (ds.map gY)[j]? = some u -> isP xs (a,e) u = false) ds.length
    ⟨0,by simp [upd,bF],by simp [upd],by simp [upd],by simp [upd],rfl,rfl,by omega,fun j u h=>by omega⟩ (fun i s h=>h.2.2.2.2.2.2.1) ?_ (jV _ _ _)
   rintro i ⟨t,B,T'⟩ ⟨r0,r7,r8,r9,rfl,rfl,hi,hN⟩
   simp only at r0 r7 r8 r9
   by_cases hlt : i < ds.length
   ·have d1 : decide (((i : Nat) : Int) < ds.length) = true:=by simp only [decide_eq_true_eq];omega
    have ex:=hstr i hlt
    obtain ⟨w,hw⟩ : ∃ w,gY ds[i] = w:=⟨_,rfl⟩
    rw [hw] at ex
    have hmap : (ds.map gY)[i]? = some w:=by rw [List.getElem?_map,ex];rfl
    have ws : IntKind.i64.wrap (((i : Nat) : Int) + 1) = ((i + 1 : Nat) : Int):=by rw [show ((i : Nat) : Int) + 1 = ((i + 1 : Nat) : Int) by omega];exact eH _ (by omega) (by omega)
    rcases tf (isP xs (a,e) w) with g | g
    ·have f : dT xs (ds.map gY) (a,e) = (w,(a + 1,e)):=by unfold dT;rw [rG hmap hN g]
     rw [f] at h
     injection h with h1 h2;injection h2 with h2 h3
     subst h1;subst h2;subst h3
     simp +contextual only [qa,qa0,ca,ca0,rc,rc0,sc,sc0,r0,r7,r8,r9,d1,ex,cR,g,go_sem]
     all_goals ((repeat' (first | apply And.intro | intro _)) <;> (first | omega | exact lvM))
    ·simp +contextual only [qa,qa0,ca,ca0,rc,rc0,sc,sc0,r0,r7,r8,r9,d1,ex,cR,g,ws,go_sem]
     refine ⟨by omega,fun j u hj hu=>?_⟩
     rcases Nat.lt_or_ge j i with h' | h'
     ·exact hN j u h' hu
     ·have : j = i:=by omega
      subst this
      rw [hmap] at hu;injection hu with hu;subst hu;exact g
   ·have d1 : decide (((i : Nat) : Int) < ds.length) = false:=by simp only [decide_eq_false_iff_not];omega
    have f : dT xs (ds.map gY) (a,e) = ([],bO a 2 (a,e)):=by
     unfold dT
     rw [mJ fun w hw=>by
      obtain ⟨j,hj,rfl⟩:=List.getElem_of_mem hw
      exact hN j _ (by simp at hj;omega) (by rw [List.getElem?_eq_getElem hj])]
    rw [f] at h
    obtain ⟨y1,y2,hy⟩ : ∃ y1 y2,bO a 2 (a,e) = (y1,y2):=⟨_,_,rfl⟩
    have hf:=pR a 2 xs e
    rw [hy] at hf h
    injection h with h1 h2;injection h2 with h2 h3
    subst h1;subst h2;subst h3
    simp +contextual only [qa,qa0,ca,ca0,rc,rc0,sc,sc0,r0,r7,r8,r9,d1,hf,go_sem]
    all_goals ((repeat' (first | apply And.intro | intro _)) <;> (first | omega | exact lvM))
  ·cases h
 ·cases h
def j7 : List (List UInt8):=[[115,117,98,106,101,99,116],[114,101,115,111,117,114,99,101],[97,99,116,105,111,110],[101,110,118]]
def bU (toks : List D) (st : St) : List UInt8 × List UInt8 × St :=
 ((dT toks j7 st).1,(cS toks (aD toks [46] (dT toks j7 st).2)).1,(cS toks (aD toks [46] (dT toks j7 st).2)).2)
def tJ : GE:=fun rest toks a e=>match rest with
 | []=>some (.tup [.str (bU toks (a,e)).1,.str (bU toks (a,e)).2.1],(bU toks (a,e)).2.2)
 | _=>none
theorem PZ : bK Tryz.prog 118 (φC tJ):=by
 have hM : cQ []:=.nil
 refine dF (l:=[]) (m:=[]) (ee:=[(119,φC zV),(71,φC bV),(121,φC kB)]) .nil .nil (.cons NS (.cons G3 (.cons L9 .nil))) Xd fun H p n xs a e rest r a' e' hp htk hlen h=>?_
 unfold tJ at h
 split at h
 ·injection h with h
  have qa:=dC (n:=n) hp htk hlen;have qa0:=bY (n:=n) hp htk hlen;have ca:=cV (n:=n) hp htk hlen;have ca0:=cC (n:=n) hp htk hlen;have rc:=fA hp;have rc0:=cU hp;have sc:=fun K : D -> S -> Prop=>fM (K:=K) hp;have sc0:=fun K : D -> S -> Prop=>d9 (K:=K) hp
  have h1 : zV [.sl none [.str [115,117,98,106,101,99,116],.str [114,101,115,111,117,114,99,101],.str [97,99,116,105,111,110],.str [101,110,118]]] xs a e = some (.str (dT xs j7 (a,e)).1,(dT xs j7 (a,e)).2):=rfl
  obtain ⟨w1,⟨a1,e1⟩,hy1⟩ : ∃ w1 st1,dT xs j7 (a,e) = (w1,st1):=⟨_,_,rfl⟩
  obtain ⟨⟨a2,e2⟩,hy2⟩ : ∃ st2,aD xs [46] (a1,e1) = st2:=⟨_,rfl⟩
  obtain ⟨w3,⟨a3,e3⟩,hy3⟩ : ∃ w3 st3,cS xs (a2,e2) = (w3,st3):=⟨_,_,rfl⟩
  have f : bU xs (a,e) = (w1,w3,a3,e3):=by simp only [bU,hy1,hy2,hy3]
  rw [hy1] at h1
  simp only at h1
  rw [f] at h
  injection h with g1 g2;injection g2 with g2 g3
  subst g1;subst g2;subst g3
  have h2 : bV [.str [46]] xs a1 e1 = some (.tup [],a2,e2):=by simp only [bV,hy2]
  have h3 : kB [] xs a2 e2 = some (.str w3,a3,e3):=by simp only [kB,hy3]
  refine ⟨by simp,by simp [D.cl,D.clL],fun T=>?_⟩
  simp +contextual only [qa,qa0,ca,ca0,rc,rc0,sc,sc0,Sn,h1,h2,h3,go_sem]
  all_goals ((repeat' (first | apply And.intro | intro _)) <;> (first | omega | exact lvM))
 ·cases h
def lG (toks : List D) (st : St) : St:=if (st.2 == 0) && decide (st.1 < toks.length) then (st.1,2) else st
def M8 : GE:=fun rest toks a e=>match rest with
 | []=>some (if (lG toks (a,e)).2 == 0 then .tup [.int .i64 0,.int .i64 0] else .tup [.int .i64 ((lG toks (a,e)).1 : Nat),.int .i64 (lG toks (a,e)).2],lG toks (a,e))
 | _=>none
theorem A0t : bK Tryz.prog 50 (φC M8):=by
 have hM : cQ []:=.nil
 refine dF (l:=[]) (m:=[]) (ee:=[(105,φC jE)]) .nil .nil (.cons yV .nil) A0p fun H p n xs a e rest r a' e' hp htk hlen h=>?_
 unfold M8 at h
 split at h
 ·injection h with h
  have qa:=dC (n:=n) hp htk hlen;have qa0:=bY (n:=n) hp htk hlen;have ca:=cV (n:=n) hp htk hlen;have ca0:=cC (n:=n) hp htk hlen;have rc:=fA hp;have rc0:=cU hp;have sc:=fun K : D -> S -> Prop=>fM (K:=K) hp;have sc0:=fun K : D -> S -> Prop=>d9 (K:=K) hp
  refine ⟨by simp,?_,fun T=>?_⟩
  ·injection h with h1 h2;subst h1;split <;> rfl
  have hf : jE [.int .i64 (a : Nat),.int .i64 2] xs a e = some (.tup [],bO a 2 (a,e)):=pR a 2 xs e
  rcases tf (e == 0) with g | g
  ·rcases tf (decide ((a : Int) < xs.length)) with g1 | g1
   ·have g1' : decide (a < xs.length) = true:=by simpa using g1
    have f : lG xs (a,e) = (a,2):=by unfold lG;rw [g,g1'];rfl
    have f2 : bO a 2 (a,e) = (a,2):=by unfold bO;rw [g];rfl
    rw [f2] at hf
    rw [f] at h
    injection h with h1 h2;injection h2 with h2 h3
    subst h1;subst h2;subst h3
    simp +contextual only [qa,qa0,ca,ca0,rc,rc0,sc,sc0,c50,g,g1,hf,go_sem]
    all_goals ((repeat' (first | apply And.intro | intro _)) <;> (first | omega | exact lvM))
   ·have g1' : decide (a < xs.length) = false:=by simpa using g1
    have f : lG xs (a,e) = (a,e):=by unfold lG;rw [g,g1'];rfl
    rw [f] at h
    have e0 : e = 0:=by simpa using g
    subst e0
    injection h with h1 h2;injection h2 with h2 h3
    subst h1;subst h2;subst h3
    simp +contextual only [qa,qa0,ca,ca0,rc,rc0,sc,sc0,c50,g,g1,go_sem]
    all_goals ((repeat' (first | apply And.intro | intro _)) <;> (first | omega | exact lvM))
  ·have f : lG xs (a,e) = (a,e):=by unfold lG;rw [g];rfl
   rw [f] at h
   simp only [g] at h
   injection h with h1 h2;injection h2 with h2 h3
   subst h1;subst h2;subst h3
   simp +contextual only [qa,qa0,ca,ca0,rc,rc0,sc,sc0,c50,g,go_sem]
   all_goals ((repeat' (first | apply And.intro | intro _)) <;> (first | omega | exact lvM))
 ·cases h
end GP
