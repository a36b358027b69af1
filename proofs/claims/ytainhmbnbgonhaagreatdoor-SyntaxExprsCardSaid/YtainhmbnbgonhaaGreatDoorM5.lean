import Derived.Shelf.SlSortCmp.WholeK
import Derived.Test.YtainhmbnbgonhaaGreatDoorProg
import Derived.Test.YtainhmbnbgonhaaGreatDoorM4
namespace GP
open Go Go.Proofs Go.Sort
section
variable {P : Program}
theorem Inv.grownB {b : Bool} {c : Cx} {w w' : World} {H : Hp} (k : Inv c w H) (hb : Below (b, w.heap.size) w w') : Inv c w' H := by
  have lt : ∀ {a : Addr} {v : Value}, w.cell? a = some v → w'.cell? a = some v := by
    intro a v h
    have hlt : a.block < w.heap.size := by
      rcases Nat.lt_or_ge a.block w.heap.size with h' | h'
      · exact h'
      · simp [World.cell?, Array.getElem?_eq_none h'] at h
    unfold World.cell? at h ⊢
    rw [hb.block _ hlt]; exact h
  refine ⟨fun a v h => lt (k.keep a v h), Nat.le_trans k.low hb.size, ?_, k.free, ?_, k.apart, k.map, k.iter, ?_, k.tokrow, k.toks⟩
  · intro o x cs h1 h2
    obtain ⟨vs, rest, e, fr, h, g⟩ := (k.row o x cs h1 h2).hold
    have hlt : c.β o < w.heap.size := by
      rcases Nat.lt_or_ge (c.β o) w.heap.size with h' | h'
      · exact h'
      · rw [Array.getElem?_eq_none h'] at h; cases h
    exact ⟨vs, rest, e, fr, by rw [hb.block _ hlt]; exact h, g⟩
  · intro o x h1 h2
    obtain ⟨a, b, d, e⟩ := k.own o x h1 h2
    exact ⟨a, b, Nat.lt_of_lt_of_le d hb.size, e⟩
  · intro τ n z h
    obtain ⟨a, b, d, e, f⟩ := k.tok τ n z h
    refine ⟨a, Nat.lt_of_lt_of_le b hb.size, d, e, fun j h1 h2 => ?_⟩
    obtain ⟨g1, g2, g3⟩ := f j h1 h2
    have hbl : w'.heap[(c.κ τ).1.block]? = w.heap[(c.κ τ).1.block]? := hb.block _ b
    refine ⟨?_, ?_, g3⟩
    · rw [← g1]; unfold World.cell?; rw [hbl]
    · rw [← g2]; unfold World.frozen?; rw [hbl]
def CxT (w : World) : Cx := { M := w.cell?, β := fun _ => 0, κ := fun _ => (⟨0, 0, none⟩, 0), bd := fun _ => false, T := [], bb := (true, w.heap.size), sz := fun _ => 0 }
theorem invT (w : World) : Inv (CxT w) w [] :=
  ⟨fun _ _ h => h, Nat.le_refl _, fun o x cs h => by simp at h, fun _ _ => rfl, fun o x h => by simp at h, fun o o' x x' h => by simp at h, fun o es h => by simp at h, fun o m l h => by simp at h, fun τ n z h => by simp [CxT] at h, fun τ n z o x h => by simp [CxT] at h, fun τ n z τ' n' z' h => by simp [CxT] at h⟩
theorem below_grow_eq {w w' : World} (h : Below (true, w.heap.size) w w') : ∃ q os, w' = grow (w.drewN q) os := by
  refine ⟨w'.drawn - w.drawn, w'.heap.extract w.heap.size w'.heap.size, ?_⟩
  obtain ⟨h1, h2, h3, h4, h5, h6⟩ := h
  have h6 := h6 rfl
  obtain ⟨heap, tape, drawn, os, output⟩ := w
  obtain ⟨heap', tape', drawn', os', output'⟩ := w'
  simp only at h1 h2 h3 h4 h5 h6
  subst h1; subst h2; subst h3
  simp only [grow, World.drewN, World.mk.injEq, and_true, true_and]
  refine ⟨?_, by omega⟩
  apply Array.ext_getElem?
  intro i
  by_cases hi : i < heap.size
  · rw [Array.getElem?_append_left hi]; exact h5 i hi
  · rw [Array.getElem?_append_right (by omega), Array.getElem?_extract]
    by_cases hi2 : i < heap'.size
    · rw [if_pos (by omega)]; congr 1; omega
    · rw [Array.getElem?_eq_none (by omega), if_neg (by omega)]
theorem cell_lt {w : World} {a : Addr} {v : Value} (h : w.cell? a = some v) : a.block < w.heap.size := by
  rcases Nat.lt_or_ge a.block w.heap.size with h' | h'
  · exact h'
  · simp [World.cell?, Array.getElem?_eq_none h'] at h
theorem putCells_set (vs : List Value) : ∀ (w : World) (b off : Nat), putCells w b off vs = w.setCells b off vs := by
  induction vs with
  | nil => intros; rfl
  | cons v vs ih => intro w b off; rw [putCells, ih]; rfl
theorem flatK_list {α : Type} [Inhabited α] (enc : α → List Value) (k : Nat) (hk : ∀ x, (enc x).length = k) (d : Array α) : (flatK enc k d).toList = (d.toList.map enc).flatten := by
  have hl : (d.toList.map enc).flatten.length = d.size * k := by
    rw [flat_len (sz := k) _ (by intro x hx; obtain ⟨y, _, rfl⟩ := List.mem_map.1 hx; exact hk y)]; simp
  apply List.ext_getElem?
  intro t
  by_cases ht : t < d.size * k
  · have k0 : 0 < k := by rcases Nat.eq_zero_or_pos k with h | h; · subst h; simp at ht
                          · exact h
    have hq : t / k < d.size := Nat.div_lt_of_lt_mul (by rw [Nat.mul_comm]; exact ht)
    have hr : t % k < k := Nat.mod_lt _ k0
    have e := get_flatK enc k d t ht
    have e1 : (flatK enc k d).toList[t]? = some (flatK enc k d)[t]! := by
      rw [getElem!_pos (flatK enc k d) t (by simpa using ht)]
      simp [ht]
    have e2 : (d.toList.map enc).flatten[t / k * k + t % k]? = ((d.toList.map enc)[t / k]'(by simpa using hq))[t % k]? :=
      flat_at _ (t / k) (by simpa using hq) (t % k) (by intro x hx; obtain ⟨y, _, rfl⟩ := List.mem_map.1 hx; exact hk y) hr
    rw [Nat.div_add_mod'] at e2
    rw [e1, e, e2, List.getElem_map]
    have hx : d[t / k]! = d.toList[t / k]'(by simpa using hq) := by rw [getElem!_pos d (t / k) hq]; simp
    rw [hx]
    rw [List.getElem?_eq_getElem (by rw [hk]; exact hr), getElem!_pos _ _ (by rw [hk]; exact hr)]
  · rw [List.getElem?_eq_none (by simp; omega), List.getElem?_eq_none (by omega)]
theorem chunk_agg {sz : Nat} : ∀ (n : Nat) (cs : List D), ∀ x ∈ chunk true sz n cs, ∃ l, x = .agg l
  | 0, _, x, h => by simp [chunk] at h
  | n + 1, cs, x, h => by
    simp only [chunk, if_true, List.mem_cons] at h
    rcases h with rfl | h
    · exact ⟨_, rfl⟩
    · exact chunk_agg n _ x h
theorem put_grown {c : Cx} {w : World} {H : Hp} (k : Inv c w H) {o : Nat} {cs ds : List D} {us : List Value} (ho : H[o]? = some (.row cs)) (kc : Cells c ds us) {off : Nat} (h1 : off + ds.length ≤ cs.length) (m : Nat) (os : Array Obj) :
    Inv c (grow ((Sort.ahead w m).setCells (c.β o) off us) os) (H.set o (.row (cs.take off ++ ds ++ cs.drop (off + ds.length)))) ∧ Below c.bb w (grow ((Sort.ahead w m).setCells (c.β o) off us) os) := by
  have k1 : Inv c (Sort.ahead w m) H := Inv.congr (w := w) (w' := Sort.ahead w m) rfl k
  have hf := row_fits k ho rfl
  obtain ⟨_, g2, g3⟩ := put_inv (P := default) k1 ho rfl kc (off := off) (by omega) (by omega)
  rw [putCells_set] at g2 g3
  have hg : ∀ (b : Bool) (x : World), Below (b, x.heap.size) x (grow x os) := fun b x => ⟨rfl, rfl, rfl, by simp, fun i hi => by simp [grow, Array.getElem?_append_left hi], fun _ => Nat.le_refl _⟩
  refine ⟨g2.grownB (hg false _), ?_⟩
  have h0 : Below c.bb w (Sort.ahead w m) := ⟨rfl, rfl, rfl, Nat.le_refl _, fun _ _ => rfl, fun _ => Nat.le_add_right _ _⟩
  exact (h0.trans g3).trans (Below.mono (b := c.bb.1) (hg _ _) g2.low)
variable [inst : HasG P]
theorem sort_snd {ρ : Go.Shelf.Ren} (L : SlLaysF0.n6 P ρ) (k : Nat) (aE : ∀ w, (isAgg (ρ.t 24)).run P w = .ok true w) (zE : ∀ w, (Go.sizeOf (ρ.t 24)).run P w = .ok k w) {f g : FuncId} (hf : ρ.f 6 = f)
    (ef : ∀ args w, (callFunc f args).run P w = .ok (.enter f args) w) (eg : ∀ args w, (callFunc g args).run P w = .ok (.enter g args) w)
    (instB : HasG P) (hB : ∀ c w, @HasG.G P instB c w) {H : Hp} {o off n cap : Nat} {cs : List D} (ho : H[o]? = some (.row cs)) (hn : 0 < n) (hn2 : n < 2 ^ 62) (hlen : off + n * k ≤ cs.length)
    (cf : D → D → Int) (hcl : ∀ x ∈ chunk true k n (cs.drop off), x.cl 0 0 = true)
    (hcmp : ∀ x ∈ chunk true k n (cs.drop off), ∀ y ∈ chunk true k n (cs.drop off), @Snd P instB g [x, y] [] [] (fun r _ _ => r = .int .i64 (cf x y)))
    (hirr : ∀ x ∈ chunk true k n (cs.drop off), ¬ cf x x < 0)
    (htr : ∀ x ∈ chunk true k n (cs.drop off), ∀ y ∈ chunk true k n (cs.drop off), ∀ z ∈ chunk true k n (cs.drop off), cf x y < 0 → cf y z < 0 → cf x z < 0)
    (hnt : ∀ x ∈ chunk true k n (cs.drop off), ∀ y ∈ chunk true k n (cs.drop off), ∀ z ∈ chunk true k n (cs.drop off), ¬ cf x y < 0 → ¬ cf y z < 0 → ¬ cf x z < 0)
    {T : Tk} {Q : Post} (hQ : ∀ ys : List D, ys.Perm (chunk true k n (cs.drop off)) → ys.Pairwise (fun a b => ¬ cf b a < 0) → Q (.tup []) (H.set o (.row (cs.take off ++ flatD ys ++ cs.drop (off + n * k)))) T) :
    @Snd P inst f [.ms true k o off n cap, .fn g [] []] H T Q := by
  intro c w args hg k1 kT kr
  match args, kr.len with
  | [va, vf], _ =>
    have ra := kr.rep 0 (by simp) (by simp)
    have rf := kr.rep 1 (by simp) (by simp)
    simp only [List.getElem_cons_zero, List.getElem_cons_succ] at ra rf
    cases ra with
    | ms _ _ _ _ _ _ rc hb g1 g2 g3 =>
    cases rf with
    | fn _ _ _ vp vq hp hq _ _ =>
    match vp, vq, hp, hq with
    | [], [], _, _ =>
    refine .inl ⟨ef _ _, ?_⟩
    generalize hxs : chunk true k n (cs.drop off) = xs at *
    have hxl : xs.length = n := by rw [← hxs]; exact chunk_len ..
    obtain ⟨vs, rest, e, fr, q1, q2, q4, q3⟩ := (k1.row o _ cs ho rfl).hold
    have hvl : vs.length = cs.length := q2.len
    have hown := k1.own o _ ho rfl
    have hblk : c.β o < w.heap.size := hown.2.2.1
    have hcd : Cells c (cs.drop off) (vs.drop off) := ⟨by simp [q2.len], fun d hd => q2.one d (List.mem_of_mem_drop hd), fun i h h' => by simpa using q2.rep (off + i) (by simp at h; omega) (by simp at h'; omega)⟩
    have ke := chunk_elems (ag := true) (sz := k) (.inl rfl) n _ _ hcd (by simp; omega)
    rw [hxs] at ke
    obtain ⟨vss, hvss⟩ : ∃ v, chunkV k n (vs.drop off) = v := ⟨_, rfl⟩
    rw [hvss] at ke
    have hvssl : vss.length = n := by rw [← hvss]; exact chunkV_len ..
    have hflat : vss.flatten = (vs.drop off).take (n * k) := by rw [← hvss]; exact chunkV_flat ..
    have hvl1 : ∀ v ∈ vss, v.length = k := ke.sz'
    haveI : Inhabited (Fin n) := ⟨⟨0, hn⟩⟩
    let enc : Fin n → List Value := fun i => vss[i.1]'(by rw [hvssl]; exact i.2)
    let el : Fin n → D := fun i => xs[i.1]'(by rw [hxl]; exact i.2)
    have hel : ∀ i, el i ∈ xs := fun i => List.getElem_mem _
    let d : Array (Fin n) := Array.ofFn id
    have hd : d.size = n := by simp [d]
    have hk : ∀ x, (enc x).length = k := fun x => hvl1 _ (List.getElem_mem _)
    have hcells : ∀ i : Fin n, Cells c (el i).cells (enc i) := fun i => ke.el i.1 (by rw [hxl]; exact i.2) (by rw [hvssl]; exact i.2)
    have hone : ∀ x, ∀ v ∈ enc x, v.oneCell' = true := fun x => (hcells x).cell
    have hdE : d.toList.map enc = vss := by
      apply List.ext_getElem
      · simp [d, hvssl]
      · intro i h1 h2
        simp only [d, Array.toList_ofFn, List.getElem_map, List.getElem_ofFn, id, enc]
    have hdX : d.toList.map el = xs := by
      apply List.ext_getElem
      · simp [d, hxl]
      · intro i h1 h2
        simp only [d, Array.toList_ofFn, List.getElem_map, List.getElem_ofFn, id, el]
    have hH : HoldsK enc k w (c.β o) off d := by
      intro t ht
      have ht' : t < n * k := by simpa [hd] using ht
      have hlist := flatK_list enc k hk d
      rw [hdE, hflat] at hlist
      have hg : (flatK enc k d)[t]! = vs[off + t]'(by omega) := by
        have : (flatK enc k d).toList[t]? = some (vs[off + t]'(by omega)) := by
          rw [hlist, List.getElem?_take_of_lt ht', List.getElem?_drop, List.getElem?_eq_getElem]
        rw [getElem!_pos (flatK enc k d) t (by simpa using ht)]
        have h2 : (flatK enc k d).toList[t]? = some ((flatK enc k d)[t]'(by simpa using ht)) := by simp [hd, ht']
        rw [h2] at this; injection this
      rw [hg]
      constructor
      · simp only [World.cell?, q1]
        simp only [Option.isSome_none, Bool.false_eq_true, if_false, List.getElem?_toArray, id]
        rw [List.getElem?_append_left (by omega), List.getElem?_eq_getElem]
      · simp only [World.frozen?, q1]
        have := q3 (off + t) (by omega)
        simpa using this
    have hO : SWO (ltOf fun i j => cf (el i) (el j)) := by
      refine ⟨fun x => ?_, fun x y z h1 h2 => ?_, fun x y z h1 h2 => ?_⟩
      · simp only [ltOf, decide_eq_false_iff_not]; exact hirr _ (hel x)
      · simp only [ltOf, decide_eq_true_eq] at *; exact htr _ (hel x) _ (hel y) _ (hel z) h1 h2
      · simp only [ltOf, decide_eq_false_iff_not] at *; exact hnt _ (hel x) _ (hel y) _ (hel z) h1 h2
    have hL : CmpLays P g #[] enc k (fun i j => cf (el i) (el j)) (c.β o) off d.size w := by
      intro m os dk hdk x y
      generalize hW : sortWorldK enc k w (c.β o) off m dk os = W
      have hM : ∀ a v, c.M a = some v → W.cell? a = some v := by
        intro a v ha
        have h0 := k1.keep a v ha
        have hlt := cell_lt h0
        have hne : a.block ≠ c.β o := by
          intro e
          obtain ⟨b, i, s⟩ := a
          simp only at e; subst e
          cases s with
          | none => rw [hown.2.2.2 i] at ha; cases ha
          | some s => simp [World.cell?, q1] at h0
        rw [← hW]
        unfold sortWorldK
        rw [cell?_grow _ _ _ (by rw [size_putRowK]; exact hlt), cell?_putRowK_other _ _ _ _ _ _ _ hne]
        exact h0
      have rep : ∀ i : Fin n, Rep (CxT W) (el i) (.agg (enc i).toArray) := by
        intro i
        obtain ⟨l, hl⟩ : ∃ l, el i = .agg l := chunk_agg n (cs.drop off) _ (by rw [hxs]; exact hel i)
        have hc := hcells i
        rw [hl] at hc ⊢
        have r0 : Rep c (.agg l) (.agg (enc i).toArray) := .agg l (enc i) hc.len hc.one hc.rep
        have hcl' := hcl _ (hel i)
        rw [hl] at hcl'
        exact r0.move (n := 0) (m := 0) (c' := CxT W) hM (fun o h => by omega) (fun o h => by omega) (fun o h => by omega) (Nat.zero_le _) (fun τ h => by omega) hcl'
      have rr : Reps (CxT W) [el x, el y] [.agg (enc x).toArray, .agg (enc y).toArray] := by
        refine ⟨rfl, fun i h h' => ?_⟩
        match i, h with
        | 0, _ => exact rep x
        | 1, _ => exact rep y
      rcases hcmp _ (hel x) _ (hel y) (CxT W) W _ (hB _ _) (invT W) rfl rr with ⟨_, hc⟩ | ⟨v, w', hc, _⟩
      · refine hc.mono ?_
        rintro e w' ⟨v, rfl, r, H', T', c', hr, hrep, _, _, _, hbel⟩
        subst hr
        cases hrep
        exact ⟨rfl, below_grow_eq hbel⟩
      · rw [eg] at hc; cases hc
    have hS := AnyQ.slices_SortFunc L k aE zE enc hk hone (fun i j => cf (el i) (el j)) hO g #[] (c.β o) off rc d w eg hL hH hblk (by rw [hd]; omega)
    rw [hf, hd] at hS
    refine hS.mono ?_
    rintro e w' ⟨rfl, d', m, os, ⟨hs1, _, hs2⟩, hs3, rfl⟩
    have hd's : d'.size = n := by rw [hs1, hd]
    have hperm : (d'.toList).Perm d.toList := by
      have e1 : d'.extract 0 n = d' := Array.ext (by simp [hd's]) (fun i h1 h2 => by simp)
      have e2 : d.extract 0 n = d := Array.ext (by simp [hd]) (fun i h1 h2 => by simp)
      rw [e1, e2] at hs2; exact hs2
    let ys : List D := d'.toList.map el
    have hys : ys.Perm xs := by rw [← hdX]; exact hperm.map el
    have hyl : ys.length = n := by rw [hys.length_eq, hxl]
    have hflatD : flatD ys = (d'.toList.map (fun i => (el i).cells)).flatten := by simp [flatD, ys, Function.comp_def]
    have hkc : Cells c (flatD ys) (flatK enc k d').toList := by
      rw [flatK_list enc k hk]
      have : Elems c k ys (d'.toList.map enc) := by
        refine ⟨by simp [ys], fun i h h' => ?_, fun x hx => ?_⟩
        · simp only [ys, List.getElem_map]; exact hcells _
        · obtain ⟨i, _, rfl⟩ := List.mem_map.1 hx
          rw [← (hcells i).len]; exact hk i
      exact this.cells
    have hfl : (flatD ys).length = n * k := by
      have := hkc.len
      simp [hd's] at this; exact this.symm
    have hw : sortWorldK enc k w (c.β o) off m d' os = grow ((Sort.ahead w m).setCells (c.β o) off (flatK enc k d').toList) os := by
      unfold sortWorldK
      congr 1
      have hH' : HoldsK enc k (Sort.ahead w m) (c.β o) off d := holdsK_ahead enc k w m (c.β o) off d hH
      have e0 : Sort.putRow id (Sort.ahead w m) (c.β o) off (flatK enc k d) = Sort.ahead w m := putRow_self id _ _ _ _ hH'
      have e1 := setCells_putRow (Sort.ahead w m) (c.β o) off (flatK enc k d').toList 0 (flatK enc k d) (by simp [hd's, hd])
      rw [e0, Nat.add_zero] at e1
      rw [e1]
      unfold putRowK
      congr 1
      apply ext_get!
      · simp [hd's, hd]
      · intro t ht
        rw [get_setMany _ _ _ _ (by simpa [hd, hd's] using ht), if_pos (by simpa using ht)]
        simp only [Nat.sub_zero]
        rw [getElem!_pos (flatK enc k d').toList t (by simpa using ht), getElem!_pos (flatK enc k d') t (by simpa using ht)]
        simp
    rw [hw]
    obtain ⟨z1, z2⟩ := put_grown k1 ho hkc (off := off) (by rw [hfl]; exact hlen) m os
    rw [hfl] at z1
    refine ⟨_, rfl, .tup [], _, T, c, hQ ys hys ?_, .tup [] [] rfl (fun i h => absurd h (by simp)), z1, Cx.le.refl c, kT, z2⟩
    rw [List.pairwise_iff_getElem]
    intro i j hi hj hij
    have hi' : i < n := by rw [← hyl]; exact hi
    have hj' : j < n := by rw [← hyl]; exact hj
    have := hs3 i j (Nat.zero_le _) hij hj'
    simp only [ltOf, decide_eq_false_iff_not] at this
    simp only [ys, List.getElem_map]
    rw [getElem!_pos d' j (by omega), getElem!_pos d' i (by omega)] at this
    simpa using this
end
end GP
namespace GP
open Go Go.Proofs
open Rd O
set_option maxRecDepth 100000
def c7 : C :=
  (.seq (.reg [⟨(some 2), none, .box (t 0)⟩, ⟨(some 4), none, .mv (k (.bool false))⟩])
  (.seq (.seq (.reg [Ip 9 18 [], ⟨(some 10), none, .un .not (t 9)⟩, Im 11 10, ⟨(some 12), (some (11, false)), .load true 3 (t 2)⟩, ⟨(some 13), (some (11, false)), .pcall (k (.fn 28 [] [])) [(t 12)]⟩, ⟨(some 14), (some (11, false)), .un .not (t 13)⟩, ⟨(some 15), none, .pick (t 11) (k (.bool true)) (t 14)⟩, Im 16 15, ⟨(some 17), (some (16, false)), .load true 3 (t 2)⟩, ⟨(some 18), (some (16, false)), .pcall (k (.fn 29 [] [])) [(t 17)]⟩, ⟨(some 19), (some (16, false)), .un .not (t 18)⟩, ⟨(some 20), none, .pick (t 16) (k (.bool true)) (t 19)⟩])
  (.cond (t 20)
  (.seq (.reg [Ip 21 18 [], Im 4 21])
  .ret)
  .skip))
  (.seq (.reg [Ia 22 3 2, Im 23 1, Ip 24 30 [(t 22), (t 23)], Im 5 24])
  (.seq (.reg [Im 26 5, Ip 27 31 [(t 26)], Im 25 27, Ie 28 0 25, Ie 29 1 25, Ie 30 2 25, ⟨(some 6), none, .alloc [.nils, (.str []), .nils]⟩, Is 3 6 28, Im 7 29, Im 8 30])
  (.seq (.seq (.reg [Im 31 5, Iz 32 31, ⟨(some 33), none, .bin .gtr (t 32) (Ki 600)⟩])
  (.cond (t 33)
  (.seq (.reg [Im 34 8, ⟨(some 35), none, .bin .eql (t 34) (Ki 13)⟩, Im 36 35, Jm 37 36 true 7, ⟨(some 38), (some (36, true)), .bin .eql (t 37) (Ki 0)⟩, ⟨(some 39), none, .pick (t 36) (t 38) (k (.bool false))⟩, Im 4 39])
  .ret)
  .skip))
  (.seq (.reg [Im 40 8, ⟨(some 41), none, .bin .eql (t 40) (Ki 0)⟩, Im 42 41, Jm 43 42 true 7, ⟨(some 44), (some (42, true)), .bin .eql (t 43) (Ki 0)⟩, ⟨(some 45), none, .pick (t 42) (t 44) (k (.bool false))⟩, Im 46 45, ⟨(some 47), (some (46, true)), .load true 3 (t 6)⟩, ⟨(some 48), (some (46, true)), .load true 3 (t 2)⟩, ⟨(some 49), (some (46, true)), .pcall (k (.fn 32 [] [])) [(t 47), (t 48)]⟩, ⟨(some 50), none, .pick (t 46) (t 49) (k (.bool false))⟩, Im 4 50])
  .ret))))))
def c49 : C :=
  (.seq (.reg [⟨(some 2), none, .alloc [(.str []), (.int .i64 0), (.int .i64 0), (.str []), .nils, (.str []), (.str []), .nils]⟩])
  (.seq (.reg [Im 3 0, Im 4 0, ⟨(some 5), none, .mkfn 104 [(t 4)] []⟩, ⟨(some 6), none, .bsl 1 [(k (.str [111, 114]))]⟩, Ic 7 103 [(t 3), (t 5), (t 6)], Is 8 2 7])
  .ret))
theorem fn49 : Fn Go.Proofs.Tryz.prog 49 8 [.inr (2, true, 8)] c49 :=
  ⟨⟨_, _, Go.Proofs.Tryz.func49, rfl, by kernel_rfl, Go.Proofs.Tryz.ntmps49, by kernel_rfl, ⟨fun f => imp.contains f, false, fun _ => false, false⟩, by kernel_rfl⟩⟩
def c50 : C :=
  (.seq (.reg [⟨(some 2), none, .mv (Ki 0)⟩, ⟨(some 3), none, .mv (Ki 0)⟩])
  (.seq (.seq (.draw 0 [(Im 4 0, []), (In 5 4, []), (If 6 2 5, []), (Il 7 6, []), (⟨(some 8), none, .bin .eql (t 7) (Ki 0)⟩, []), (Im 9 8, []), (Jm 10 9 true 0, []), (⟨(some 11), (some (9, true)), .nilc (t 10)⟩, []), (Jf 12 9 true 1 11, []), (Jl 13 9 true 12, []), (Jm 14 9 true 0, []), (⟨(some 15), (some (9, true)), .nilc (t 14)⟩, []), (Jf 16 9 true 0 15, []), (Jl 17 9 true 16, []), (⟨(some 18), (some (9, true)), .len (t 17)⟩, []), (⟨(some 19), (some (9, true)), .bin .lss (t 13) (t 18)⟩, []), (⟨(some 20), none, .pick (t 9) (t 19) (k (.bool false))⟩, [])])
  (.cond (t 20)
  (.reg [Im 21 0, Im 22 0, In 23 22, If 24 1 23, Il 25 24, Ic 26 105 [(t 21), (t 25), (Ki 2)]])
  .skip))
  (.seq (.seq (.reg [Im 27 0, In 28 27, If 29 2 28, Il 30 29, ⟨(some 31), none, .bin .eql (t 30) (Ki 0)⟩])
  (.cond (t 31)
  (.seq (.reg [⟨(some 2), none, .mv (Ki 0)⟩, ⟨(some 3), none, .mv (Ki 0)⟩])
  .ret)
  .skip))
  (.seq (.draw 0 [(Im 32 0, []), (In 33 32, []), (If 34 1 33, []), (Il 35 34, []), (Im 36 0, []), (In 37 36, []), (If 38 2 37, []), (Il 39 38, []), (Im 2 35, []), (Im 3 39, [])])
  .ret))))
theorem fn50 : Fn Go.Proofs.Tryz.prog 50 40 [.inl 2, .inl 3] c50 :=
  ⟨⟨_, _, Go.Proofs.Tryz.func50, rfl, by kernel_rfl, Go.Proofs.Tryz.ntmps50, by kernel_rfl, ⟨fun f => imp.contains f, false, fun _ => false, false⟩, by kernel_rfl⟩⟩
def c117 : C :=
  (.seq (.reg [⟨(some 4), none, .mv (k (.bool false))⟩])
  (.seq (.reg [Im 6 0, Ip 7 177 [(t 6)], ⟨(some 5), none, .alloc [(.int .i64 0), (.str []), (.int .i64 0)]⟩, Is 3 5 7])
  (.seq (.reg [If 8 0 5, Il 9 8, ⟨(some 10), none, .bin .eql (t 9) (Ki 1)⟩, Im 11 10, Jf 12 11 false 0 5, Jl 13 11 false 12, ⟨(some 14), (some (11, false)), .bin .eql (t 13) (Ki 5)⟩, ⟨(some 15), none, .pick (t 11) (k (.bool true)) (t 14)⟩, Im 16 15, Jf 17 16 true 1 5, Jl 18 16 true 17, Jm 19 16 true 1, ⟨(some 20), (some (16, true)), .bin .eql (t 18) (t 19)⟩, ⟨(some 21), none, .pick (t 16) (t 20) (k (.bool false))⟩, Im 4 21])
  .ret)))
theorem fn117 : Fn Go.Proofs.Tryz.prog 117 22 [.inl 4] c117 :=
  ⟨⟨_, _, Go.Proofs.Tryz.func117, rfl, by kernel_rfl, Go.Proofs.Tryz.ntmps117, by kernel_rfl, ⟨fun f => imp.contains f, false, fun _ => false, false⟩, by kernel_rfl⟩⟩
def c120 : C :=
  (.seq (.reg [⟨(some 4), none, .alloc [(.int .i64 0), (.str []), (.int .i64 0)]⟩])
  (.seq (.reg [Im 6 0, Ip 7 177 [(t 6)], ⟨(some 5), none, .alloc [(.int .i64 0), (.str []), (.int .i64 0)]⟩, Is 3 5 7])
  (.seq (.seq (.reg [If 8 0 5, Il 9 8, Im 10 1, ⟨(some 11), none, .bin .neq (t 9) (t 10)⟩])
  (.cond (t 11)
  (.seq (.reg [Im 12 0, Im 13 0, In 14 13, If 15 1 14, Il 16 15, Ic 17 105 [(t 12), (t 16), (Ki 2)]])
  (.seq (.reg [⟨(some 18), none, .build [(.int .i64 0), (.str []), (.int .i64 0)] []⟩, Is 3 4 18])
  .ret))
  .skip))
  (.seq (.reg [Im 19 0, In 20 19, If 21 1 20, Il 22 21, ⟨(some 23), none, .bin .add (t 22) (Ki 1)⟩, In 24 19, If 25 1 24, Is 1 25 23])
  (.seq (.reg [Ia 26 3 5, Is 3 4 26])
  .ret)))))
theorem fn120 : Fn Go.Proofs.Tryz.prog 120 27 [.inr (4, true, 3)] c120 :=
  ⟨⟨_, _, Go.Proofs.Tryz.func120, rfl, by kernel_rfl, Go.Proofs.Tryz.ntmps120, by kernel_rfl, ⟨fun f => imp.contains f, false, fun _ => false, false⟩, by kernel_rfl⟩⟩
def c173 : C :=
  (.seq (.reg [⟨(some 0), none, .mv (k .nils)⟩])
  (.seq (.reg [⟨(some 1), none, .bsl 1 [(k (.str [123])), (k (.str [125])), (k (.str [40])), (k (.str [41])), (k (.str [91])), (k (.str [93])), (k (.str [59])), (k (.str [46])), (k (.str [44])), (k (.str [43])), (k (.str [45])), (k (.str [42])), (k (.str [60])), (k (.str [62])), (k (.str [61, 61])), (k (.str [33, 61])), (k (.str [60, 61])), (k (.str [62, 61]))]⟩, Im 0 1])
  .ret))
theorem fn173 : Fn Go.Proofs.Tryz.prog 173 2 [.inl 0] c173 :=
  ⟨⟨_, _, Go.Proofs.Tryz.func173, rfl, by kernel_rfl, Go.Proofs.Tryz.ntmps173, by kernel_rfl, ⟨fun f => imp.contains f, false, fun _ => false, false⟩, by kernel_rfl⟩⟩
def c175 : C :=
  (.seq (.reg [⟨(some 2), none, .mv (k (.bool false))⟩])
  (.seq (.reg [Im 3 0, Im 4 0, ⟨(some 5), none, .bin .neq (t 3) (t 4)⟩, Im 2 5])
  .ret))
theorem fn175 : Fn Go.Proofs.Tryz.prog 175 6 [.inl 2] c175 :=
  ⟨⟨_, _, Go.Proofs.Tryz.func175, rfl, by kernel_rfl, Go.Proofs.Tryz.ntmps175, by kernel_rfl, ⟨fun f => imp.contains f, false, fun _ => false, false⟩, by kernel_rfl⟩⟩
def c179 : C :=
  (.seq (.reg [⟨(some 1), none, .box (t 0)⟩, ⟨(some 2), none, .mv (k (.bool false))⟩])
  (.seq (.seq (.reg [If 3 3 1, Il 4 3, Iz 5 4, ⟨(some 6), none, .bin .gtr (t 5) (Ki 0)⟩, Im 7 6, Jf 8 7 false 0 1, Jl 9 7 false 8, ⟨(some 10), (some (7, false)), .bin .neq (t 9) (Ki 3)⟩, Jm 11 7 false 10, Jf 12 11 true 2 1, Jl 13 11 true 12, ⟨(some 14), (some (11, true)), .bin .neq (t 13) (k (.str []))⟩, ⟨(some 15), (some (7, false)), .pick (t 11) (t 14) (k (.bool false))⟩, ⟨(some 16), none, .pick (t 7) (k (.bool true)) (t 15)⟩])
  (.cond (t 16)
  (.seq (.reg [⟨(some 2), none, .mv (k (.bool false))⟩])
  .ret)
  .skip))
  (.seq (.seq (.reg [If 17 0 1, Il 18 17])
  (.block 0
  (.seq (.reg [⟨(some 20), none, .bin .eql (t 18) (Ki 0)⟩, Im 19 20])
  (.cond (t 19)
  (.seq (.reg [If 21 1 1, Il 22 21, ⟨(some 23), none, .bin .eql (t 22) (Ki 0)⟩, Im 2 23])
  .ret)
  (.seq (.reg [⟨(some 25), none, .bin .eql (t 18) (Ki 1)⟩, Im 24 25])
  (.cond (t 24)
  (.seq (.reg [If 26 1 1, Il 27 26, ⟨(some 28), none, .bin .eql (t 27) (Ki 0)⟩, Im 29 28, Jf 30 29 false 1 1, Jl 31 29 false 30, ⟨(some 32), (some (29, false)), .bin .eql (t 31) (Ki 1)⟩, ⟨(some 33), none, .pick (t 29) (k (.bool true)) (t 32)⟩, Im 2 33])
  .ret)
  (.seq (.reg [⟨(some 35), none, .bin .eql (t 18) (Ki 2)⟩, Im 34 35])
  (.cond (t 34)
  (.seq (.reg [⟨(some 2), none, .mv (k (.bool true))⟩])
  .ret)
  (.seq (.reg [⟨(some 37), none, .bin .eql (t 18) (Ki 3)⟩, Im 36 37])
  (.cond (t 36)
  (.seq (.reg [If 38 1 1, Il 39 38, ⟨(some 40), none, .bin .eql (t 39) (Ki 0)⟩, Im 41 40, Jf 42 41 true 2 1, Jl 43 41 true 42, ⟨(some 44), (some (41, true)), .lens (t 43)⟩, ⟨(some 45), (some (41, true)), .bin .leq (t 44) (Ki 64)⟩, ⟨(some 46), none, .pick (t 41) (t 45) (k (.bool false))⟩, Im 2 46])
  .ret)
  (.seq (.reg [⟨(some 48), none, .bin .eql (t 18) (Ki 4)⟩, Im 47 48])
  (.cond (t 47)
  (.seq (.reg [If 49 1 1, Il 50 49, ⟨(some 51), none, .bin .geq (t 50) (Ki 0)⟩, Im 52 51, Jf 53 52 true 1 1, Jl 54 52 true 53, ⟨(some 55), (some (52, true)), .bin .leq (t 54) (Ki 1099511627776)⟩, ⟨(some 56), none, .pick (t 52) (t 55) (k (.bool false))⟩, Im 2 56])
  .ret)
  .skip))))))))))))
  (.seq (.reg [⟨(some 2), none, .mv (k (.bool false))⟩])
  .ret))))
theorem fn179 : Fn Go.Proofs.Tryz.prog 179 57 [.inl 2] c179 :=
  ⟨⟨_, _, Go.Proofs.Tryz.func179, rfl, by kernel_rfl, Go.Proofs.Tryz.ntmps179, by kernel_rfl, ⟨fun f => imp.contains f, false, fun _ => false, false⟩, by kernel_rfl⟩⟩
end GP
namespace GP
open Go Go.Proofs
open Rd O
set_option maxRecDepth 100000
def c16 : C :=
  (.seq (.reg [⟨(some 0), none, .mv (k .nils)⟩])
  (.seq (.reg [⟨(some 1), none, .bsl 1 [(k (.str [102, 97, 99, 116])), (k (.str [116, 114, 117, 116, 104])), (k (.str [110, 117, 109, 98, 101, 114])), (k (.str [116, 101, 120, 116])), (k (.str [116, 105, 109, 101])), (k (.str [98, 97, 103])), (k (.str [117, 115, 101])), (k (.str [112, 111, 108, 105, 99, 121])), (k (.str [98, 121])), (k (.str [102, 111, 114])), (k (.str [112, 101, 114, 109, 105, 116])), (k (.str [100, 101, 110, 121])), (k (.str [105, 102])), (k (.str [100, 117, 116, 121])), (k (.str [97, 100, 118, 105, 99, 101])), (k (.str [116, 114, 117, 101])), (k (.str [102, 97, 108, 115, 101])), (k (.str [110, 111, 119])), (k (.str [111, 114])), (k (.str [97, 110, 100])), (k (.str [110, 111, 116])), (k (.str [105, 110])), (k (.str [104, 97, 115])), (k (.str [114, 111, 108, 101])), (k (.str [115, 105, 122, 101])), (k (.str [115, 117, 98, 106, 101, 99, 116])), (k (.str [114, 101, 115, 111, 117, 114, 99, 101])), (k (.str [97, 99, 116, 105, 111, 110])), (k (.str [101, 110, 118]))]⟩, Im 0 1])
  .ret))
theorem fn16 : Fn Go.Proofs.Tryz.prog 16 2 [.inl 0] c16 :=
  ⟨⟨_, _, Go.Proofs.Tryz.func16, rfl, by kernel_rfl, Go.Proofs.Tryz.ntmps16, by kernel_rfl, ⟨fun f => imp.contains f, false, fun _ => false, false⟩, by kernel_rfl⟩⟩
def c18 : C :=
  (.seq (.reg [⟨(some 0), none, .mv (k (.bool false))⟩])
  (.seq (.reg [Ip 8 40 [(k (.str [49, 32, 43, 32, 50, 32, 42, 32, 51]))], Im 7 8, Ie 9 0 7, Ie 10 1 7, Ie 11 2 7, Im 1 9, Im 2 10, Im 3 11])
  (.seq (.reg [Im 13 1, Ip 14 19 [(t 13)], Im 12 14, Ie 15 0 12, Ie 16 1 12, Ie 17 2 12, ⟨(some 4), none, .alloc [(.str []), (.int .i64 0), (.int .i64 0), (.str []), .nils, (.str []), (.str []), .nils]⟩, Is 8 4 15, Im 5 16, Im 6 17])
  (.seq (.reg [Im 18 6, ⟨(some 19), none, .bin .eql (t 18) (Ki 0)⟩, Im 20 19, Jf 21 20 true 0 4, Jl 22 20 true 21, ⟨(some 23), (some (20, true)), .bin .eql (t 22) (k (.str [43]))⟩, ⟨(some 24), none, .pick (t 20) (t 23) (k (.bool false))⟩, Im 25 24, Jf 26 25 true 7 4, Jl 27 25 true 26, ⟨(some 28), (some (25, true)), .len (t 27)⟩, ⟨(some 29), (some (25, true)), .bin .eql (t 28) (Ki 2)⟩, ⟨(some 30), none, .pick (t 25) (t 29) (k (.bool false))⟩, Im 31 30, Jf 32 31 true 7 4, Jl 33 31 true 32, ⟨(some 34), (some (31, true)), .iaddr 8 (t 33) (Ki 1)⟩, Jf 35 31 true 0 34, Jl 36 31 true 35, ⟨(some 37), (some (31, true)), .bin .eql (t 36) (k (.str [42]))⟩, ⟨(some 38), none, .pick (t 31) (t 37) (k (.bool false))⟩, Im 0 38])
  .ret))))
theorem fn18 : Fn Go.Proofs.Tryz.prog 18 39 [.inl 0] c18 :=
  ⟨⟨_, _, Go.Proofs.Tryz.func18, rfl, by kernel_rfl, Go.Proofs.Tryz.ntmps18, by kernel_rfl, ⟨fun f => imp.contains f, false, fun _ => false, false⟩, by kernel_rfl⟩⟩
def c54 : C :=
  (.seq (.reg [⟨(some 2), none, .box (t 0)⟩, ⟨(some 3), none, .box (t 1)⟩, ⟨(some 4), none, .mv (k (.bool false))⟩])
  (.seq (.seq (.reg [If 8 0 2, Il 9 8, If 10 0 3, Il 11 10, ⟨(some 12), none, .bin .neq (t 9) (t 11)⟩, Im 13 12, Jf 14 13 false 1 2, Jl 15 13 false 14, Jf 16 13 false 1 3, Jl 17 13 false 16, ⟨(some 18), (some (13, false)), .bin .neq (t 15) (t 17)⟩, ⟨(some 19), none, .pick (t 13) (k (.bool true)) (t 18)⟩, Im 20 19, Jf 21 20 false 2 2, Jl 22 20 false 21, Jf 23 20 false 2 3, Jl 24 20 false 23, ⟨(some 25), (some (20, false)), .bin .neq (t 22) (t 24)⟩, ⟨(some 26), none, .pick (t 20) (k (.bool true)) (t 25)⟩, Im 27 26, Jf 28 27 false 3 2, Jl 29 27 false 28, ⟨(some 30), (some (27, false)), .len (t 29)⟩, Jf 31 27 false 3 3, Jl 32 27 false 31, ⟨(some 33), (some (27, false)), .len (t 32)⟩, ⟨(some 34), (some (27, false)), .bin .neq (t 30) (t 33)⟩, ⟨(some 35), none, .pick (t 27) (k (.bool true)) (t 34)⟩])
  (.cond (t 35)
  (.seq (.reg [⟨(some 4), none, .mv (k (.bool false))⟩])
  .ret)
  .skip))
  (.seq (.seq (.reg [⟨(some 5), none, .mv (Ki 0)⟩])
  (.block 0
  (.loop
  (.seq (.seq (.reg [Im 36 5, If 37 3 2, Il 38 37, Iz 39 38, ⟨(some 40), none, .bin .lss (t 36) (t 39)⟩])
  (.cond (t 40)
  .skip
  (.exit 0)))
  (.seq (.block 1
  (.seq (.draw 2 [(If 43 3 2, []), (Il 44 43, []), (Im 45 5, []), (⟨(some 46), none, .iaddr 4 (t 44) (t 45)⟩, []), (Ia 47 4 46, []), (If 48 3 3, []), (Il 49 48, []), (Im 50 5, []), (⟨(some 51), none, .iaddr 4 (t 49) (t 50)⟩, []), (Ia 52 4 51, []), (⟨(some 6), none, .rawAt 2 [(.int .i64 0), (.int .i64 0), (.str []), .nils]⟩, []), (⟨(some 7), none, .rawAt 1 [(.int .i64 0), (.int .i64 0), (.str []), .nils]⟩, []), (⟨none, none, .fillAt 2 4 (t 6) (t 47)⟩, []), (⟨none, none, .fillAt 1 4 (t 7) (t 52)⟩, [])])
  (.seq (.reg [If 53 0 6, Il 54 53, If 55 0 7, Il 56 55, ⟨(some 57), none, .bin .neq (t 54) (t 56)⟩, Im 58 57, Jf 59 58 false 1 6, Jl 60 58 false 59, Jf 61 58 false 1 7, Jl 62 58 false 61, ⟨(some 63), (some (58, false)), .bin .neq (t 60) (t 62)⟩, ⟨(some 64), none, .pick (t 58) (k (.bool true)) (t 63)⟩, Im 65 64, Jf 66 65 false 2 6, Jl 67 65 false 66, Jf 68 65 false 2 7, Jl 69 65 false 68, ⟨(some 70), (some (65, false)), .bin .neq (t 67) (t 69)⟩, ⟨(some 71), none, .pick (t 65) (k (.bool true)) (t 70)⟩, Im 72 71, Jf 73 72 false 3 6, Jl 74 72 false 73, ⟨(some 75), (some (72, false)), .len (t 74)⟩, ⟨(some 76), (some (72, false)), .bin .gtr (t 75) (Ki 0)⟩, ⟨(some 77), none, .pick (t 72) (k (.bool true)) (t 76)⟩, Im 78 77, Jf 79 78 false 3 7, Jl 80 78 false 79, ⟨(some 81), (some (78, false)), .len (t 80)⟩, ⟨(some 82), (some (78, false)), .bin .gtr (t 81) (Ki 0)⟩, ⟨(some 83), none, .pick (t 78) (k (.bool true)) (t 82)⟩])
  (.cond (t 83)
  (.seq (.reg [⟨(some 4), none, .mv (k (.bool false))⟩])
  .ret)
  .skip))))
  (.reg [Im 41 5, ⟨(some 42), none, .bin .add (t 41) (Ki 1)⟩, Im 5 42]))))))
  (.seq (.reg [⟨(some 4), none, .mv (k (.bool true))⟩])
  .ret))))
theorem fn54 : Fn Go.Proofs.Tryz.prog 54 84 [.inl 4] c54 :=
  ⟨⟨_, _, Go.Proofs.Tryz.func54, rfl, by kernel_rfl, Go.Proofs.Tryz.ntmps54, by kernel_rfl, ⟨fun f => imp.contains f, false, fun _ => false, false⟩, by kernel_rfl⟩⟩
def c92 : C :=
  (.seq (.reg [⟨(some 4), none, .alloc [(.int .i64 0), (.str []), (.int .i64 0)]⟩, ⟨(some 5), none, .mv (Ki 0)⟩])
  (.seq (.reg [Im 16 0, Im 17 1, ⟨(some 18), none, .idxs (t 16) (t 17)⟩, Im 6 18])
  (.seq (.block 0
  (.seq (.reg [Im 20 6, ⟨(some 21), none, .bin .geq (t 20) (k (.int .u8 97))⟩, Im 22 21, Jm 23 22 true 6, ⟨(some 24), (some (22, true)), .bin .leq (t 23) (k (.int .u8 122))⟩, ⟨(some 25), none, .pick (t 22) (t 24) (k (.bool false))⟩, Im 19 25])
  (.cond (t 19)
  (.seq (.reg [Im 26 0, Im 27 1, Ip 28 144 [(t 26), (t 27), (k (.fn 146 [] []))], Im 7 28])
  (.seq (.seq (.reg [Im 29 7, ⟨(some 30), none, .bin .gtr (t 29) (Ki 64)⟩])
  (.cond (t 30)
  (.seq (.reg [⟨(some 31), none, .build [(.int .i64 0), (.str []), (.int .i64 0)] []⟩, Is 3 4 31, ⟨(some 5), none, .mv (Ki 0)⟩])
  .ret)
  .skip))
  (.seq (.reg [Im 32 0, Im 33 1, Im 34 1, Im 35 7, ⟨(some 36), none, .bin .add (t 34) (t 35)⟩, ⟨(some 37), none, .subs (t 32) (some (t 33)) (some (t 36))⟩, ⟨(some 38), none, .build [(.int .i64 0), (.str []), (.int .i64 0)] [(0, 1, (Ki 1)), (1, 1, (t 37))]⟩, Im 39 7, Is 3 4 38, Im 5 39])
  .ret)))
  (.seq (.reg [Im 41 6, Ip 42 148 [(t 41)], Im 40 42])
  (.cond (t 40)
  (.seq (.reg [Im 44 0, Im 45 1, Ip 46 149 [(t 44), (t 45), (Ki 9223372036854775807)], Im 43 46, Ie 47 0 43, Ie 48 1 43, Im 8 47, Im 9 48])
  (.seq (.reg [Im 49 8, ⟨(some 50), none, .build [(.int .i64 0), (.str []), (.int .i64 0)] [(0, 1, (Ki 2)), (2, 1, (t 49))]⟩, Im 51 9, Is 3 4 50, Im 5 51])
  .ret))
  (.seq (.reg [Im 53 6, ⟨(some 54), none, .bin .eql (t 53) (k (.int .u8 64))⟩, Im 52 54])
  (.cond (t 52)
  (.seq (.reg [Im 56 0, Im 57 1, ⟨(some 58), none, .bin .add (t 57) (Ki 1)⟩, Ip 59 149 [(t 56), (t 58), (Ki 1099511627776)], Im 55 59, Ie 60 0 55, Ie 61 1 55, Im 10 60, Im 11 61])
  (.seq (.seq (.reg [Im 62 11, ⟨(some 63), none, .bin .eql (t 62) (Ki 0)⟩])
  (.cond (t 63)
  (.seq (.reg [⟨(some 64), none, .build [(.int .i64 0), (.str []), (.int .i64 0)] []⟩, Is 3 4 64, ⟨(some 5), none, .mv (Ki 0)⟩])
  .ret)
  .skip))
  (.seq (.reg [Im 65 10, ⟨(some 66), none, .build [(.int .i64 0), (.str []), (.int .i64 0)] [(0, 1, (Ki 4)), (2, 1, (t 65))]⟩, Im 67 11, ⟨(some 68), none, .bin .add (t 67) (Ki 1)⟩, Is 3 4 66, Im 5 68])
  .ret)))
  (.seq (.reg [Im 70 6, ⟨(some 71), none, .bin .eql (t 70) (k (.int .u8 34))⟩, Im 69 71])
  (.cond (t 69)
  (.seq (.reg [Im 73 0, Im 74 1, Ip 75 150 [(t 73), (t 74)], Im 72 75, Ie 76 0 72, Ie 77 1 72, Im 12 76, Im 13 77])
  (.seq (.reg [Im 78 12, ⟨(some 79), none, .build [(.int .i64 0), (.str []), (.int .i64 0)] [(0, 1, (Ki 3)), (1, 1, (t 78))]⟩, Im 80 13, Is 3 4 79, Im 5 80])
  .ret))
  .skip)))))))))
  (.seq (.seq (.reg [Ip 81 151 [], Iz 82 81, ⟨(some 83), none, .mv (Ki 0)⟩])
  (.block 1
  (.loop
  (.seq (.reg [⟨(some 84), none, .bin .lss (t 83) (t 82)⟩])
  (.seq (.cond (t 84)
  .skip
  (.exit 1))
  (.seq (.block 2
  (.seq (.reg [⟨(some 85), none, .iaddr 1 (t 81) (t 83)⟩, Il 86 85, Im 15 86])
  (.seq (.reg [Im 87 0, Im 88 1, ⟨(some 89), none, .subs (t 87) (some (t 88)) none⟩, Im 90 15, Ip 91 152 [(t 89), (t 90)]])
  (.cond (t 91)
  (.seq (.reg [Im 92 15, ⟨(some 93), none, .build [(.int .i64 0), (.str []), (.int .i64 0)] [(0, 1, (Ki 5)), (1, 1, (t 92))]⟩, Im 94 15, ⟨(some 95), none, .lens (t 94)⟩, Is 3 4 93, Im 5 95])
  .ret)
  .skip))))
  (.reg [⟨(some 96), none, .bin .add (t 83) (Ki 1)⟩, Im 83 96])))))))
  (.seq (.reg [⟨(some 97), none, .build [(.int .i64 0), (.str []), (.int .i64 0)] []⟩, Is 3 4 97, ⟨(some 5), none, .mv (Ki 0)⟩])
  .ret)))))
theorem fn92 : Fn Go.Proofs.Tryz.prog 92 98 [.inr (4, true, 3), .inl 5] c92 :=
  ⟨⟨_, _, Go.Proofs.Tryz.func92, rfl, by kernel_rfl, Go.Proofs.Tryz.ntmps92, by kernel_rfl, ⟨fun f => imp.contains f, false, fun _ => false, false⟩, by kernel_rfl⟩⟩
def c118 : C :=
  (.seq (.reg [⟨(some 2), none, .mv (k (.str []))⟩, ⟨(some 3), none, .mv (k (.str []))⟩])
  (.seq (.reg [Im 5 0, ⟨(some 6), none, .bsl 1 [(k (.str [115, 117, 98, 106, 101, 99, 116])), (k (.str [114, 101, 115, 111, 117, 114, 99, 101])), (k (.str [97, 99, 116, 105, 111, 110])), (k (.str [101, 110, 118]))]⟩, Ic 7 119 [(t 5), (t 6)], Im 4 7])
  (.seq (.reg [Im 8 0, Ic 9 71 [(t 8), (k (.str [46]))]])
  (.seq (.reg [Im 10 4, Im 11 0, Ic 12 121 [(t 11)], Im 2 10, Im 3 12])
  .ret))))
theorem fn118 : Fn Go.Proofs.Tryz.prog 118 13 [.inl 2, .inl 3] c118 :=
  ⟨⟨_, _, Go.Proofs.Tryz.func118, rfl, by kernel_rfl, Go.Proofs.Tryz.ntmps118, by kernel_rfl, ⟨fun f => imp.contains f, false, fun _ => false, false⟩, by kernel_rfl⟩⟩
def c121 : C :=
  (.seq (.reg [⟨(some 2), none, .mv (k (.str []))⟩])
  (.seq (.seq (.reg [Im 4 0, Ip 5 177 [(t 4)], ⟨(some 3), none, .alloc [(.int .i64 0), (.str []), (.int .i64 0)]⟩, Is 3 3 5])
  (.seq (.reg [If 6 0 3, Il 7 6, ⟨(some 8), none, .bin .neq (t 7) (Ki 1)⟩, Im 9 8, Jf 10 9 false 1 3, Jl 11 9 false 10, ⟨(some 12), (some (9, false)), .pcall (k (.fn 17 [] [])) [(t 11)]⟩, ⟨(some 13), none, .pick (t 9) (k (.bool true)) (t 12)⟩])
  (.cond (t 13)
  (.seq (.reg [Im 14 0, Im 15 0, In 16 15, If 17 1 16, Il 18 17, Ic 19 105 [(t 14), (t 18), (Ki 2)]])
  (.seq (.reg [⟨(some 2), none, .mv (k (.str []))⟩])
  .ret))
  .skip)))
  (.seq (.reg [Im 20 0, Ic 21 120 [(t 20), (Ki 1)], ⟨(some 22), none, .field false 1 1 (t 21)⟩, Im 2 22])
  .ret)))
theorem fn121 : Fn Go.Proofs.Tryz.prog 121 23 [.inl 2] c121 :=
  ⟨⟨_, _, Go.Proofs.Tryz.func121, rfl, by kernel_rfl, Go.Proofs.Tryz.ntmps121, by kernel_rfl, ⟨fun f => imp.contains f, false, fun _ => false, false⟩, by kernel_rfl⟩⟩
def c163 : C :=
  (.seq (.reg [⟨(some 2), none, .mv (k (.bool false))⟩])
  (.seq (.reg [Im 3 0, ⟨(some 4), none, .bin .geq (t 3) (k (.int .u8 48))⟩, Im 5 4, Jm 6 5 true 0, ⟨(some 7), (some (5, true)), .bin .leq (t 6) (k (.int .u8 57))⟩, ⟨(some 8), none, .pick (t 5) (t 7) (k (.bool false))⟩, Im 2 8])
  .ret))
theorem fn163 : Fn Go.Proofs.Tryz.prog 163 9 [.inl 2] c163 :=
  ⟨⟨_, _, Go.Proofs.Tryz.func163, rfl, by kernel_rfl, Go.Proofs.Tryz.ntmps163, by kernel_rfl, ⟨fun f => imp.contains f, false, fun _ => false, false⟩, by kernel_rfl⟩⟩
def c170 : C :=
  (.seq (.reg [⟨(some 2), none, .alloc [(.str []), (.int .i64 0), (.int .i64 0), (.str []), .nils, (.str []), (.str []), .nils]⟩])
  (.seq (.seq (.reg [Im 3 0, Ic 4 69 [(t 3), (k (.str [110, 111, 116]))]])
  (.cond (t 4)
  (.seq (.reg [Im 5 0, Ic 6 170 [(t 5)], ⟨(some 7), none, .bsl 8 [(t 6)]⟩, ⟨(some 8), none, .build [(.str []), (.int .i64 0), (.int .i64 0), (.str []), .nils, (.str []), (.str []), .nils] [(0, 1, (k (.str [110, 111, 116]))), (7, 1, (t 7))]⟩, Is 8 2 8])
  .ret)
  .skip))
  (.seq (.reg [Im 9 0, Ic 10 202 [(t 9)], Is 8 2 10])
  .ret)))
theorem fn170 : Fn Go.Proofs.Tryz.prog 170 11 [.inr (2, true, 8)] c170 :=
  ⟨⟨_, _, Go.Proofs.Tryz.func170, rfl, by kernel_rfl, Go.Proofs.Tryz.ntmps170, by kernel_rfl, ⟨fun f => imp.contains f, false, fun _ => false, false⟩, by kernel_rfl⟩⟩
def c203 : C :=
  (.seq (.reg [⟨(some 4), none, .mv (Ki 0)⟩])
  (.seq (.seq (.reg [Im 5 0, Im 6 1, ⟨(some 7), none, .bin .lss (t 5) (t 6)⟩])
  (.cond (t 7)
  (.seq (.reg [⟨(some 4), none, .mv (k (.int .i64 (-1)))⟩])
  .ret)
  .skip))
  (.seq (.seq (.reg [Im 8 0, Im 9 1, ⟨(some 10), none, .bin .gtr (t 8) (t 9)⟩])
  (.cond (t 10)
  (.seq (.reg [⟨(some 4), none, .mv (Ki 1)⟩])
  .ret)
  .skip))
  (.seq (.reg [⟨(some 4), none, .mv (Ki 0)⟩])
  .ret))))
theorem fn203 : Fn Go.Proofs.Tryz.prog 203 11 [.inl 4] c203 :=
  ⟨⟨_, _, Go.Proofs.Tryz.func203, rfl, by kernel_rfl, Go.Proofs.Tryz.ntmps203, by kernel_rfl, ⟨fun f => imp.contains f, false, fun _ => false, false⟩, by kernel_rfl⟩⟩
def c244 : C :=
  (.seq (.reg [⟨(some 2), none, .alloc [(.int .i64 0), (.int .i64 0), (.str []), .nils]⟩])
  (.seq (.seq (.reg [Im 3 0])
  (.cond (t 3)
  (.seq (.reg [⟨(some 4), none, .build [(.int .i64 0), (.int .i64 0), (.str []), .nils] [(0, 1, (Ki 1)), (1, 1, (Ki 1))]⟩, Is 4 2 4])
  .ret)
  .skip))
  (.seq (.reg [⟨(some 5), none, .build [(.int .i64 0), (.int .i64 0), (.str []), .nils] [(0, 1, (Ki 1))]⟩, Is 4 2 5])
  .ret)))
theorem fn244 : Fn Go.Proofs.Tryz.prog 244 6 [.inr (2, true, 4)] c244 :=
  ⟨⟨_, _, Go.Proofs.Tryz.func244, rfl, by kernel_rfl, Go.Proofs.Tryz.ntmps244, by kernel_rfl, ⟨fun f => imp.contains f, false, fun _ => false, false⟩, by kernel_rfl⟩⟩
end GP
namespace GP
open Go Go.Proofs
open Rd O
set_option maxRecDepth 100000
def c6 : C :=
  (.seq (.reg [⟨(some 2), none, .box (t 0)⟩, ⟨(some 4), none, .mv (k (.bool false))⟩])
  (.seq (.seq (.reg [Ip 9 18 [], ⟨(some 10), none, .un .not (t 9)⟩, Im 11 10, ⟨(some 12), (some (11, false)), .load true 8 (t 2)⟩, ⟨(some 13), (some (11, false)), .pcall (k (.fn 25 [] [])) [(t 12)]⟩, ⟨(some 14), (some (11, false)), .un .not (t 13)⟩, ⟨(some 15), none, .pick (t 11) (k (.bool true)) (t 14)⟩, Im 16 15, ⟨(some 17), (some (16, false)), .load true 8 (t 2)⟩, ⟨(some 18), (some (16, false)), .pcall (k (.fn 21 [] [])) [(t 17)]⟩, ⟨(some 19), (some (16, false)), .un .not (t 18)⟩, ⟨(some 20), none, .pick (t 16) (k (.bool true)) (t 19)⟩])
  (.cond (t 20)
  (.seq (.reg [Ip 21 18 [], Im 4 21])
  .ret)
  .skip))
  (.seq (.reg [Ia 22 8 2, Im 23 1, Ip 24 24 [(t 22), (t 23)], Im 5 24])
  (.seq (.reg [Im 26 5, Ip 27 19 [(t 26)], Im 25 27, Ie 28 0 25, Ie 29 1 25, Ie 30 2 25, ⟨(some 6), none, .alloc [(.str []), (.int .i64 0), (.int .i64 0), (.str []), .nils, (.str []), (.str []), .nils]⟩, Is 8 6 28, Im 7 29, Im 8 30])
  (.seq (.seq (.reg [Im 31 5, Iz 32 31, ⟨(some 33), none, .bin .gtr (t 32) (Ki 600)⟩])
  (.cond (t 33)
  (.seq (.reg [Im 34 8, ⟨(some 35), none, .bin .eql (t 34) (Ki 13)⟩, Im 36 35, Jm 37 36 true 7, ⟨(some 38), (some (36, true)), .bin .eql (t 37) (Ki 0)⟩, ⟨(some 39), none, .pick (t 36) (t 38) (k (.bool false))⟩, Im 4 39])
  .ret)
  .skip))
  (.seq (.seq (.draw 0 [(Ia 40 8 2, []), (Ip 41 26 [(t 40)], []), (Ia 42 8 2, []), (Ip 43 22 [(t 42)], []), (⟨(some 44), none, .bin .neq (t 41) (t 43)⟩, []), (Im 45 44, []), (Jm 46 45 false 7, []), (⟨(some 47), (some (45, false)), .bin .neq (t 46) (Ki 0)⟩, []), (⟨(some 48), none, .pick (t 45) (k (.bool true)) (t 47)⟩, [])])
  (.cond (t 48)
  (.seq (.reg [⟨(some 4), none, .mv (k (.bool false))⟩])
  .ret)
  .skip))
  (.seq (.seq (.reg [Ia 49 8 2, Ip 50 22 [(t 49)], ⟨(some 51), none, .bin .gtr (t 50) (Ki 12)⟩])
  (.cond (t 51)
  (.seq (.reg [Im 52 8, ⟨(some 53), none, .bin .eql (t 52) (Ki 11)⟩, Im 54 53, ⟨(some 55), (some (54, true)), .load true 8 (t 6)⟩, ⟨(some 56), (some (54, true)), .build [(.str []), (.int .i64 0), (.int .i64 0), (.str []), .nils, (.str []), (.str []), .nils] []⟩, ⟨(some 57), (some (54, true)), .pcall (k (.fn 20 [] [])) [(t 55), (t 56)]⟩, ⟨(some 58), none, .pick (t 54) (t 57) (k (.bool false))⟩, Im 4 58])
  .ret)
  .skip))
  (.seq (.reg [Im 59 8, ⟨(some 60), none, .bin .eql (t 59) (Ki 0)⟩, Im 61 60, ⟨(some 62), (some (61, true)), .load true 8 (t 6)⟩, ⟨(some 63), (some (61, true)), .load true 8 (t 2)⟩, ⟨(some 64), (some (61, true)), .pcall (k (.fn 20 [] [])) [(t 62), (t 63)]⟩, ⟨(some 65), none, .pick (t 61) (t 64) (k (.bool false))⟩, Im 66 65, ⟨(some 67), (some (66, true)), .load true 8 (t 6)⟩, ⟨(some 68), (some (66, true)), .load true 8 (t 2)⟩, ⟨(some 69), (some (66, true)), .pcall (k (.fn 27 [] [])) [(t 67), (t 68)]⟩, ⟨(some 70), none, .pick (t 66) (t 69) (k (.bool false))⟩, Im 4 70])
  .ret))))))))
theorem fn6 : Fn Go.Proofs.Tryz.prog 6 71 [.inl 4] c6 :=
  ⟨⟨_, _, Go.Proofs.Tryz.func6, rfl, by kernel_rfl, Go.Proofs.Tryz.ntmps6, by kernel_rfl, ⟨fun f => imp.contains f, false, fun _ => false, false⟩, by kernel_rfl⟩⟩
def c20 : C :=
  (.seq (.reg [⟨(some 2), none, .box (t 0)⟩, ⟨(some 3), none, .box (t 1)⟩, ⟨(some 4), none, .mv (k (.bool false))⟩])
  (.seq (.seq (.reg [If 6 0 2, Il 7 6, If 8 0 3, Il 9 8, ⟨(some 10), none, .bin .neq (t 7) (t 9)⟩, Im 11 10, Jf 12 11 false 5 2, Jl 13 11 false 12, Jf 14 11 false 5 3, Jl 15 11 false 14, ⟨(some 16), (some (11, false)), .bin .neq (t 13) (t 15)⟩, ⟨(some 17), none, .pick (t 11) (k (.bool true)) (t 16)⟩, Im 18 17, Jf 19 18 false 6 2, Jl 20 18 false 19, Jf 21 18 false 6 3, Jl 22 18 false 21, ⟨(some 23), (some (18, false)), .bin .neq (t 20) (t 22)⟩, ⟨(some 24), none, .pick (t 18) (k (.bool true)) (t 23)⟩, Im 25 24, ⟨(some 26), (some (25, false)), .load true 8 (t 2)⟩, ⟨(some 27), (some (25, false)), .load true 8 (t 3)⟩, ⟨(some 28), (some (25, false)), .pcall (k (.fn 51 [] [])) [(t 26), (t 27)]⟩, ⟨(some 29), (some (25, false)), .un .not (t 28)⟩, ⟨(some 30), none, .pick (t 25) (k (.bool true)) (t 29)⟩, Im 31 30, Jf 32 31 false 7 2, Jl 33 31 false 32, ⟨(some 34), (some (31, false)), .len (t 33)⟩, Jf 35 31 false 7 3, Jl 36 31 false 35, ⟨(some 37), (some (31, false)), .len (t 36)⟩, ⟨(some 38), (some (31, false)), .bin .neq (t 34) (t 37)⟩, ⟨(some 39), none, .pick (t 31) (k (.bool true)) (t 38)⟩])
  (.cond (t 39)
  (.seq (.reg [⟨(some 4), none, .mv (k (.bool false))⟩])
  .ret)
  .skip))
  (.seq (.seq (.reg [⟨(some 5), none, .mv (Ki 0)⟩])
  (.block 0
  (.loop
  (.seq (.seq (.reg [Im 40 5, If 41 7 2, Il 42 41, Iz 43 42, ⟨(some 44), none, .bin .lss (t 40) (t 43)⟩])
  (.cond (t 44)
  .skip
  (.exit 0)))
  (.seq (.block 1
  (.seq (.draw 0 [(If 47 7 2, []), (Il 48 47, []), (Im 49 5, []), (⟨(some 50), none, .iaddr 8 (t 48) (t 49)⟩, []), (Ia 51 8 50, []), (If 52 7 3, []), (Il 53 52, []), (Im 54 5, []), (⟨(some 55), none, .iaddr 8 (t 53) (t 54)⟩, []), (Ia 56 8 55, []), (Ip 57 20 [(t 51), (t 56)], []), (⟨(some 58), none, .un .not (t 57)⟩, [])])
  (.cond (t 58)
  (.seq (.reg [⟨(some 4), none, .mv (k (.bool false))⟩])
  .ret)
  .skip)))
  (.reg [Im 45 5, ⟨(some 46), none, .bin .add (t 45) (Ki 1)⟩, Im 5 46]))))))
  (.seq (.reg [⟨(some 4), none, .mv (k (.bool true))⟩])
  .ret))))
theorem fn20 : Fn Go.Proofs.Tryz.prog 20 59 [.inl 4] c20 :=
  ⟨⟨_, _, Go.Proofs.Tryz.func20, rfl, by kernel_rfl, Go.Proofs.Tryz.ntmps20, by kernel_rfl, ⟨fun f => imp.contains f, false, fun _ => false, false⟩, by kernel_rfl⟩⟩
def c40 : C :=
  (.seq (.reg [⟨(some 2), none, .mv (k .nils)⟩, ⟨(some 3), none, .mv (Ki 0)⟩, ⟨(some 4), none, .mv (Ki 0)⟩])
  (.seq (.seq (.reg [Im 9 0, ⟨(some 10), none, .lens (t 9)⟩, ⟨(some 11), none, .bin .gtr (t 10) (Ki 4096)⟩])
  (.cond (t 11)
  (.seq (.reg [⟨(some 2), none, .mv (k .nils)⟩, ⟨(some 3), none, .mv (Ki 0)⟩, ⟨(some 4), none, .mv (Ki 3)⟩])
  .ret)
  .skip))
  (.seq (.reg [⟨(some 5), none, .mv (k .nils)⟩])
  (.seq (.seq (.reg [Im 12 0, Ip 13 91 [(t 12), (Ki 0)], Im 6 13])
  (.block 0
  (.loop
  (.seq (.seq (.reg [Im 14 6, Im 15 0, ⟨(some 16), none, .lens (t 15)⟩, ⟨(some 17), none, .bin .lss (t 14) (t 16)⟩])
  (.cond (t 17)
  .skip
  (.exit 0)))
  (.seq (.block 1
  (.seq (.reg [Im 22 0, Im 23 6, Ip 24 92 [(t 22), (t 23)], Im 21 24, Ie 25 0 21, Ie 26 1 21, ⟨(some 7), none, .alloc [(.int .i64 0), (.str []), (.int .i64 0)]⟩, Is 3 7 25, Im 8 26])
  (.seq (.block 2
  (.seq (.reg [Im 28 8, ⟨(some 29), none, .bin .eql (t 28) (Ki 0)⟩, Im 27 29])
  (.cond (t 27)
  (.seq (.reg [Im 30 6, ⟨(some 2), none, .mv (k .nils)⟩, Im 3 30, ⟨(some 4), none, .mv (Ki 2)⟩])
  .ret)
  (.seq (.reg [Im 32 5, Iz 33 32, ⟨(some 34), none, .bin .eql (t 33) (Ki 600)⟩, Im 31 34])
  (.cond (t 31)
  (.seq (.reg [Im 35 6, ⟨(some 2), none, .mv (k .nils)⟩, Im 3 35, ⟨(some 4), none, .mv (Ki 13)⟩])
  .ret)
  .skip)))))
  (.seq (.reg [Im 36 5, Ia 37 3 7, ⟨(some 38), none, .bsl 3 [(t 37)]⟩, ⟨(some 39), none, .app false 3 32 (t 36) (t 38)⟩, Im 5 39])
  (.reg [Im 40 6, Im 41 8, ⟨(some 42), none, .bin .add (t 40) (t 41)⟩, Im 6 42])))))
  (.reg [Im 18 0, Im 19 6, Ip 20 91 [(t 18), (t 19)], Im 6 20]))))))
  (.seq (.reg [Im 43 5, Im 2 43, ⟨(some 3), none, .mv (Ki 0)⟩, ⟨(some 4), none, .mv (Ki 0)⟩])
  .ret)))))
theorem fn40 : Fn Go.Proofs.Tryz.prog 40 44 [.inl 2, .inl 3, .inl 4] c40 :=
  ⟨⟨_, _, Go.Proofs.Tryz.func40, rfl, by kernel_rfl, Go.Proofs.Tryz.ntmps40, by kernel_rfl, ⟨fun f => imp.contains f, false, fun _ => false, false⟩, by kernel_rfl⟩⟩
def c57 : C :=
  (.seq (.reg [⟨(some 1), none, .box (t 0)⟩, ⟨(some 2), none, .mv (k (.bool false))⟩])
  (.seq (.seq (.reg [If 4 0 1, Il 5 4])
  (.block 0
  (.seq (.reg [⟨(some 7), none, .bin .eql (t 5) (Ki 1)⟩, Im 6 7])
  (.cond (t 6)
  (.seq (.reg [If 8 1 1, Il 9 8, Ip 10 109 [(t 9)], Im 11 10, Jf 12 11 true 2 1, Jl 13 11 true 12, ⟨(some 14), (some (11, true)), .bin .eql (t 13) (Ki 0)⟩, ⟨(some 15), none, .pick (t 11) (t 14) (k (.bool false))⟩, Im 2 15])
  .ret)
  (.seq (.reg [⟨(some 17), none, .bin .eql (t 5) (Ki 2)⟩, Im 16 17])
  (.cond (t 16)
  (.seq (.reg [If 18 1 1, Il 19 18, ⟨(some 20), none, .bin .eql (t 19) (k (.str []))⟩, Im 21 20, Jf 22 21 true 2 1, Jl 23 21 true 22, ⟨(some 24), (some (21, true)), .bin .geq (t 23) (Ki 0)⟩, ⟨(some 25), none, .pick (t 21) (t 24) (k (.bool false))⟩, Im 2 25])
  .ret)
  (.seq (.reg [⟨(some 27), none, .bin .eql (t 5) (Ki 3)⟩, Im 26 27])
  (.cond (t 26)
  (.seq (.seq (.reg [⟨(some 3), none, .mv (Ki 0)⟩])
  (.block 1
  (.loop
  (.seq (.seq (.reg [Im 28 3, If 29 1 1, Il 30 29, ⟨(some 31), none, .lens (t 30)⟩, ⟨(some 32), none, .bin .lss (t 28) (t 31)⟩])
  (.cond (t 32)
  .skip
  (.exit 1)))
  (.seq (.block 2
  (.seq (.reg [If 35 1 1, Il 36 35, Im 37 3, ⟨(some 38), none, .idxs (t 36) (t 37)⟩, ⟨(some 39), none, .bin .lss (t 38) (k (.int .u8 32))⟩, Im 40 39, Jf 41 40 false 1 1, Jl 42 40 false 41, Jm 43 40 false 3, ⟨(some 44), (some (40, false)), .idxs (t 42) (t 43)⟩, ⟨(some 45), (some (40, false)), .bin .gtr (t 44) (k (.int .u8 126))⟩, ⟨(some 46), none, .pick (t 40) (k (.bool true)) (t 45)⟩])
  (.cond (t 46)
  (.seq (.reg [⟨(some 2), none, .mv (k (.bool false))⟩])
  .ret)
  .skip)))
  (.reg [Im 33 3, ⟨(some 34), none, .bin .add (t 33) (Ki 1)⟩, Im 3 34]))))))
  (.seq (.reg [If 47 1 1, Il 48 47, ⟨(some 49), none, .lens (t 48)⟩, ⟨(some 50), none, .bin .leq (t 49) (Ki 64)⟩, Im 51 50, Jf 52 51 true 2 1, Jl 53 51 true 52, ⟨(some 54), (some (51, true)), .bin .eql (t 53) (Ki 0)⟩, ⟨(some 55), none, .pick (t 51) (t 54) (k (.bool false))⟩, Im 2 55])
  .ret))
  (.seq (.reg [⟨(some 57), none, .bin .eql (t 5) (Ki 4)⟩, Im 56 57])
  (.cond (t 56)
  (.seq (.reg [If 58 1 1, Il 59 58, ⟨(some 60), none, .bin .eql (t 59) (k (.str []))⟩, Im 61 60, Jf 62 61 true 2 1, Jl 63 61 true 62, ⟨(some 64), (some (61, true)), .bin .geq (t 63) (Ki 0)⟩, ⟨(some 65), none, .pick (t 61) (t 64) (k (.bool false))⟩, Im 66 65, Jf 67 66 true 2 1, Jl 68 66 true 67, ⟨(some 69), (some (66, true)), .bin .leq (t 68) (Ki 1099511627776)⟩, ⟨(some 70), none, .pick (t 66) (t 69) (k (.bool false))⟩, Im 2 70])
  .ret)
  (.seq (.reg [⟨(some 72), none, .bin .eql (t 5) (Ki 5)⟩, Im 71 72])
  (.cond (t 71)
  (.seq (.reg [If 73 1 1, Il 74 73, Ip 75 110 [(t 74)], Im 76 75, Jf 77 76 true 2 1, Jl 78 76 true 77, ⟨(some 79), (some (76, true)), .bin .eql (t 78) (Ki 0)⟩, ⟨(some 80), none, .pick (t 76) (t 79) (k (.bool false))⟩, Im 2 80])
  .ret)
  .skip))))))))))))
  (.seq (.reg [⟨(some 2), none, .mv (k (.bool false))⟩])
  .ret)))
theorem fn57 : Fn Go.Proofs.Tryz.prog 57 81 [.inl 2] c57 :=
  ⟨⟨_, _, Go.Proofs.Tryz.func57, rfl, by kernel_rfl, Go.Proofs.Tryz.ntmps57, by kernel_rfl, ⟨fun f => imp.contains f, false, fun _ => false, false⟩, by kernel_rfl⟩⟩
def c60 : C :=
  (.seq (.reg [⟨(some 2), none, .alloc [(.int .i64 0), (.str []), (.int .i64 0)]⟩])
  (.seq (.reg [Im 3 0, ⟨(some 4), none, .build [(.int .i64 0), (.str []), (.int .i64 0)] [(0, 1, (Ki 5)), (1, 1, (t 3))]⟩, Is 3 2 4])
  .ret))
theorem fn60 : Fn Go.Proofs.Tryz.prog 60 5 [.inr (2, true, 3)] c60 :=
  ⟨⟨_, _, Go.Proofs.Tryz.func60, rfl, by kernel_rfl, Go.Proofs.Tryz.ntmps60, by kernel_rfl, ⟨fun f => imp.contains f, false, fun _ => false, false⟩, by kernel_rfl⟩⟩
def c63 : C :=
  (.seq (.reg [⟨(some 1), none, .box (t 0)⟩, ⟨(some 2), none, .mv (k (.bool false))⟩])
  (.seq (.seq (.reg [If 4 0 1, Il 5 4, ⟨(some 6), none, .lens (t 5)⟩, ⟨(some 7), none, .bin .gtr (t 6) (Ki 200)⟩, Im 8 7, Jf 9 8 false 5 1, Jl 10 8 false 9, ⟨(some 11), (some (8, false)), .lens (t 10)⟩, ⟨(some 12), (some (8, false)), .bin .gtr (t 11) (Ki 200)⟩, ⟨(some 13), none, .pick (t 8) (k (.bool true)) (t 12)⟩, Im 14 13, Jf 15 14 false 6 1, Jl 16 14 false 15, ⟨(some 17), (some (14, false)), .lens (t 16)⟩, ⟨(some 18), (some (14, false)), .bin .gtr (t 17) (Ki 200)⟩, ⟨(some 19), none, .pick (t 14) (k (.bool true)) (t 18)⟩, Im 20 19, Jf 21 20 false 1 1, ⟨(some 22), (some (20, false)), .load true 4 (t 21)⟩, ⟨(some 23), (some (20, false)), .bsl 4 [(t 22)]⟩, ⟨(some 24), (some (20, false)), .pcall (k (.fn 111 [] [])) [(t 23), (Ki 1)]⟩, ⟨(some 25), (some (20, false)), .un .not (t 24)⟩, ⟨(some 26), none, .pick (t 20) (k (.bool true)) (t 25)⟩])
  (.cond (t 26)
  (.seq (.reg [⟨(some 2), none, .mv (k (.bool false))⟩])
  .ret)
  .skip))
  (.seq (.seq (.reg [⟨(some 3), none, .mv (Ki 0)⟩])
  (.block 0
  (.loop
  (.seq (.seq (.reg [Im 27 3, If 28 7 1, Il 29 28, Iz 30 29, ⟨(some 31), none, .bin .lss (t 27) (t 30)⟩])
  (.cond (t 31)
  .skip
  (.exit 0)))
  (.seq (.block 1
  (.seq (.reg [If 34 7 1, Il 35 34, Im 36 3, ⟨(some 37), none, .iaddr 8 (t 35) (t 36)⟩, Ia 38 8 37, Ip 39 63 [(t 38)], ⟨(some 40), none, .un .not (t 39)⟩])
  (.cond (t 40)
  (.seq (.reg [⟨(some 2), none, .mv (k (.bool false))⟩])
  .ret)
  .skip)))
  (.reg [Im 32 3, ⟨(some 33), none, .bin .add (t 32) (Ki 1)⟩, Im 3 33]))))))
  (.seq (.reg [⟨(some 2), none, .mv (k (.bool true))⟩])
  .ret))))
theorem fn63 : Fn Go.Proofs.Tryz.prog 63 41 [.inl 2] c63 :=
  ⟨⟨_, _, Go.Proofs.Tryz.func63, rfl, by kernel_rfl, Go.Proofs.Tryz.ntmps63, by kernel_rfl, ⟨fun f => imp.contains f, false, fun _ => false, false⟩, by kernel_rfl⟩⟩
def c102 : C :=
  (.seq (.reg [⟨(some 4), none, .mv (Ki 0)⟩])
  (.seq (.seq (.reg [Im 6 0, Iz 7 6, ⟨(some 8), none, .mv (Ki 0)⟩])
  (.block 0
  (.loop
  (.seq (.reg [⟨(some 9), none, .bin .lss (t 8) (t 7)⟩])
  (.seq (.cond (t 9)
  .skip
  (.exit 0))
  (.seq (.block 1
  (.seq (.reg [Im 10 8, Im 5 10])
  (.seq (.reg [Im 11 1, Im 12 0, Im 13 5, ⟨(some 14), none, .iaddr 1 (t 12) (t 13)⟩, Il 15 14, ⟨(some 16), none, .bin .eql (t 11) (t 15)⟩])
  (.cond (t 16)
  (.seq (.reg [Im 17 5, Im 4 17])
  .ret)
  .skip))))
  (.reg [⟨(some 18), none, .bin .add (t 8) (Ki 1)⟩, Im 8 18])))))))
  (.seq (.reg [⟨(some 4), none, .mv (k (.int .i64 (-1)))⟩])
  .ret)))
theorem fn102 : Fn Go.Proofs.Tryz.prog 102 19 [.inl 4] c102 :=
  ⟨⟨_, _, Go.Proofs.Tryz.func102, rfl, by kernel_rfl, Go.Proofs.Tryz.ntmps102, by kernel_rfl, ⟨fun f => imp.contains f, false, fun _ => false, false⟩, by kernel_rfl⟩⟩
def c104 : C :=
  (.seq (.reg [⟨(some 2), none, .alloc [(.str []), (.int .i64 0), (.int .i64 0), (.str []), .nils, (.str []), (.str []), .nils]⟩])
  (.seq (.reg [Im 3 0, Im 4 0, ⟨(some 5), none, .mkfn 170 [(t 4)] []⟩, ⟨(some 6), none, .bsl 1 [(k (.str [97, 110, 100]))]⟩, Ic 7 103 [(t 3), (t 5), (t 6)], Is 8 2 7])
  .ret))
theorem fn104 : Fn Go.Proofs.Tryz.prog 104 8 [.inr (2, true, 8)] c104 :=
  ⟨⟨_, _, Go.Proofs.Tryz.func104, rfl, by kernel_rfl, Go.Proofs.Tryz.ntmps104, by kernel_rfl, ⟨fun f => imp.contains f, false, fun _ => false, false⟩, by kernel_rfl⟩⟩
def c105 : C :=
  (.seq (.reg [Im 6 0, In 7 6, If 8 2 7, Il 9 8, ⟨(some 10), none, .bin .eql (t 9) (Ki 0)⟩])
  (.cond (t 10)
  (.reg [Im 11 0, Im 12 0, Im 13 1, Im 14 2, In 15 11, If 16 1 15, Is 1 16 13, In 17 12, If 18 2 17, Is 1 18 14])
  .skip))
theorem fn105 : Fn Go.Proofs.Tryz.prog 105 19 [] c105 :=
  ⟨⟨_, _, Go.Proofs.Tryz.func105, rfl, by kernel_rfl, Go.Proofs.Tryz.ntmps105, by kernel_rfl, ⟨fun f => imp.contains f, false, fun _ => false, false⟩, by kernel_rfl⟩⟩
def c109 : C :=
  (.seq (.reg [⟨(some 2), none, .mv (k (.bool false))⟩])
  (.seq (.seq (.reg [⟨(some 3), none, .mv (Ki 0)⟩])
  (.block 0
  (.loop
  (.seq (.seq (.reg [Im 4 3, Im 5 0, ⟨(some 6), none, .lens (t 5)⟩, ⟨(some 7), none, .bin .lss (t 4) (t 6)⟩])
  (.cond (t 7)
  .skip
  (.exit 0)))
  (.seq (.block 1
  (.seq (.reg [Im 10 0, Im 11 3, ⟨(some 12), none, .idxs (t 10) (t 11)⟩, Ip 13 162 [(t 12)], ⟨(some 14), none, .un .not (t 13)⟩, Im 15 14, Jm 16 15 true 3, ⟨(some 17), (some (15, true)), .bin .eql (t 16) (Ki 0)⟩, Jm 18 15 true 17, Jm 19 18 false 0, Jm 20 18 false 3, ⟨(some 21), (some (18, false)), .idxs (t 19) (t 20)⟩, ⟨(some 22), (some (18, false)), .pcall (k (.fn 163 [] [])) [(t 21)]⟩, ⟨(some 23), (some (18, false)), .un .not (t 22)⟩, Jm 24 18 false 23, Jm 25 24 true 0, Jm 26 24 true 3, ⟨(some 27), (some (24, true)), .idxs (t 25) (t 26)⟩, ⟨(some 28), (some (24, true)), .bin .neq (t 27) (k (.int .u8 95))⟩, ⟨(some 29), (some (18, false)), .pick (t 24) (t 28) (k (.bool false))⟩, ⟨(some 30), (some (15, true)), .pick (t 18) (k (.bool true)) (t 29)⟩, ⟨(some 31), none, .pick (t 15) (t 30) (k (.bool false))⟩])
  (.cond (t 31)
  (.seq (.reg [⟨(some 2), none, .mv (k (.bool false))⟩])
  .ret)
  .skip)))
  (.reg [Im 8 3, ⟨(some 9), none, .bin .add (t 8) (Ki 1)⟩, Im 3 9]))))))
  (.seq (.reg [Im 32 0, ⟨(some 33), none, .lens (t 32)⟩, ⟨(some 34), none, .bin .gtr (t 33) (Ki 0)⟩, Im 35 34, Jm 36 35 true 0, ⟨(some 37), (some (35, true)), .lens (t 36)⟩, ⟨(some 38), (some (35, true)), .bin .leq (t 37) (Ki 64)⟩, ⟨(some 39), none, .pick (t 35) (t 38) (k (.bool false))⟩, Im 2 39])
  .ret)))
theorem fn109 : Fn Go.Proofs.Tryz.prog 109 40 [.inl 2] c109 :=
  ⟨⟨_, _, Go.Proofs.Tryz.func109, rfl, by kernel_rfl, Go.Proofs.Tryz.ntmps109, by kernel_rfl, ⟨fun f => imp.contains f, false, fun _ => false, false⟩, by kernel_rfl⟩⟩
def c111 : C :=
  (.seq (.reg [⟨(some 4), none, .mv (k (.bool false))⟩])
  (.seq (.seq (.reg [⟨(some 5), none, .mv (Ki 0)⟩])
  (.block 0
  (.loop
  (.seq (.seq (.reg [Im 7 5, Im 8 0, Iz 9 8, ⟨(some 10), none, .bin .lss (t 7) (t 9)⟩, Im 11 10, Jm 12 11 true 5, ⟨(some 13), (some (11, true)), .bin .lss (t 12) (Ki 100)⟩, ⟨(some 14), none, .pick (t 11) (t 13) (k (.bool false))⟩])
  (.cond (t 14)
  .skip
  (.exit 0)))
  (.seq (.block 1
  (.seq (.seq (.reg [Im 17 0, Im 18 5, ⟨(some 19), none, .iaddr 4 (t 17) (t 18)⟩, If 20 2 19, Il 21 20, ⟨(some 22), none, .lens (t 21)⟩, ⟨(some 23), none, .bin .gtr (t 22) (Ki 200)⟩, Im 24 23, Jm 25 24 false 0, Jm 26 24 false 5, ⟨(some 27), (some (24, false)), .iaddr 4 (t 25) (t 26)⟩, Jf 28 24 false 3 27, Jl 29 24 false 28, ⟨(some 30), (some (24, false)), .len (t 29)⟩, ⟨(some 31), (some (24, false)), .bin .gtr (t 30) (Ki 30)⟩, ⟨(some 32), none, .pick (t 24) (k (.bool true)) (t 31)⟩])
  (.cond (t 32)
  (.seq (.reg [⟨(some 4), none, .mv (k (.bool false))⟩])
  .ret)
  .skip))
  (.seq (.reg [⟨(some 6), none, .mv (Ki 0)⟩])
  (.block 2
  (.loop
  (.seq (.seq (.reg [Im 33 6, Im 34 0, Im 35 5, ⟨(some 36), none, .iaddr 4 (t 34) (t 35)⟩, If 37 3 36, Il 38 37, Iz 39 38, ⟨(some 40), none, .bin .lss (t 33) (t 39)⟩])
  (.cond (t 40)
  .skip
  (.exit 2)))
  (.seq (.block 3
  (.seq (.reg [Im 43 0, Im 44 5, ⟨(some 45), none, .iaddr 4 (t 43) (t 44)⟩, If 46 3 45, Il 47 46, Im 48 6, ⟨(some 49), none, .iaddr 4 (t 47) (t 48)⟩, If 50 2 49, Il 51 50, ⟨(some 52), none, .lens (t 51)⟩, ⟨(some 53), none, .bin .gtr (t 52) (Ki 200)⟩, Im 54 53, Jm 55 54 false 0, Jm 56 54 false 5, ⟨(some 57), (some (54, false)), .iaddr 4 (t 55) (t 56)⟩, Jf 58 54 false 3 57, Jl 59 54 false 58, Jm 60 54 false 6, ⟨(some 61), (some (54, false)), .iaddr 4 (t 59) (t 60)⟩, Jf 62 54 false 3 61, Jl 63 54 false 62, ⟨(some 64), (some (54, false)), .len (t 63)⟩, ⟨(some 65), (some (54, false)), .bin .gtr (t 64) (Ki 0)⟩, ⟨(some 66), none, .pick (t 54) (k (.bool true)) (t 65)⟩])
  (.cond (t 66)
  (.seq (.reg [⟨(some 4), none, .mv (k (.bool false))⟩])
  .ret)
  .skip)))
  (.reg [Im 41 6, ⟨(some 42), none, .bin .add (t 41) (Ki 1)⟩, Im 6 42]))))))))
  (.reg [Im 15 5, ⟨(some 16), none, .bin .add (t 15) (Ki 1)⟩, Im 5 16]))))))
  (.seq (.reg [Im 67 0, Iz 68 67, Im 69 1, ⟨(some 70), none, .bin .leq (t 68) (t 69)⟩, Im 4 70])
  .ret)))
theorem fn111 : Fn Go.Proofs.Tryz.prog 111 71 [.inl 4] c111 :=
  ⟨⟨_, _, Go.Proofs.Tryz.func111, rfl, by kernel_rfl, Go.Proofs.Tryz.ntmps111, by kernel_rfl, ⟨fun f => imp.contains f, false, fun _ => false, false⟩, by kernel_rfl⟩⟩
def c112 : C :=
  (.seq (.reg [⟨(some 2), none, .mv (Ki 0)⟩])
  (.seq (.reg [⟨(some 3), none, .mv (Ki 0)⟩])
  (.seq (.seq (.reg [Im 6 0, Iz 7 6, ⟨(some 8), none, .mv (Ki 0)⟩])
  (.block 0
  (.loop
  (.seq (.reg [⟨(some 9), none, .bin .lss (t 8) (t 7)⟩])
  (.seq (.cond (t 9)
  .skip
  (.exit 0))
  (.seq (.block 1
  (.seq (.reg [⟨(some 10), none, .iaddr 1 (t 6) (t 8)⟩, Il 11 10, Im 5 11])
  (.seq (.reg [Im 12 5, Im 13 3, ⟨(some 14), none, .bin .neq (t 12) (t 13)⟩])
  (.cond (t 14)
  (.seq (.reg [Im 15 5, Im 2 15])
  .ret)
  .skip))))
  (.reg [⟨(some 16), none, .bin .add (t 8) (Ki 1)⟩, Im 8 16])))))))
  (.seq (.reg [Im 17 3, Im 2 17])
  .ret))))
theorem fn112 : Fn Go.Proofs.Tryz.prog 112 18 [.inl 2] c112 :=
  ⟨⟨_, _, Go.Proofs.Tryz.func112, rfl, by kernel_rfl, Go.Proofs.Tryz.ntmps112, by kernel_rfl, ⟨fun f => imp.contains f, false, fun _ => false, false⟩, by kernel_rfl⟩⟩
def c114 : C :=
  (.seq (.reg [⟨(some 4), none, .mv (Ki 0)⟩])
  (.seq (.reg [Im 7 0, Ip 8 175 [(t 7)], Im 5 8])
  (.seq (.reg [Im 9 1, Ip 10 175 [(t 9)], Im 6 10])
  (.seq (.seq (.reg [Im 11 5])
  (.cond (t 11)
  (.seq (.seq (.reg [Im 12 6])
  (.cond (t 12)
  (.seq (.reg [⟨(some 4), none, .mv (Ki 0)⟩])
  .ret)
  .skip))
  (.seq (.reg [⟨(some 4), none, .mv (k (.int .i64 (-1)))⟩])
  .ret))
  .skip))
  (.seq (.seq (.reg [Im 13 6])
  (.cond (t 13)
  (.seq (.reg [⟨(some 4), none, .mv (Ki 1)⟩])
  .ret)
  .skip))
  (.seq (.seq (.reg [Im 14 0, Im 15 1, ⟨(some 16), none, .bin .lss (t 14) (t 15)⟩])
  (.cond (t 16)
  (.seq (.reg [⟨(some 4), none, .mv (k (.int .i64 (-1)))⟩])
  .ret)
  .skip))
  (.seq (.seq (.reg [Im 17 0, Im 18 1, ⟨(some 19), none, .bin .gtr (t 17) (t 18)⟩])
  (.cond (t 19)
  (.seq (.reg [⟨(some 4), none, .mv (Ki 1)⟩])
  .ret)
  .skip))
  (.seq (.reg [⟨(some 4), none, .mv (Ki 0)⟩])
  .ret))))))))
theorem fn114 : Fn Go.Proofs.Tryz.prog 114 20 [.inl 4] c114 :=
  ⟨⟨_, _, Go.Proofs.Tryz.func114, rfl, by kernel_rfl, Go.Proofs.Tryz.ntmps114, by kernel_rfl, ⟨fun f => imp.contains f, false, fun _ => false, false⟩, by kernel_rfl⟩⟩
def c152 : C :=
  (.seq (.reg [⟨(some 4), none, .mv (k (.bool false))⟩])
  (.seq (.reg [Im 5 0, Im 6 1, Ip 7 186 [(t 5), (t 6)], Im 4 7])
  .ret))
theorem fn152 : Fn Go.Proofs.Tryz.prog 152 8 [.inl 4] c152 :=
  ⟨⟨_, _, Go.Proofs.Tryz.func152, rfl, by kernel_rfl, Go.Proofs.Tryz.ntmps152, by kernel_rfl, ⟨fun f => imp.contains f, false, fun _ => false, false⟩, by kernel_rfl⟩⟩
def c186 : C :=
  (.seq (.reg [⟨(some 4), none, .mv (k (.bool false))⟩])
  (.seq (.reg [Im 5 0, ⟨(some 6), none, .lens (t 5)⟩, Im 7 1, ⟨(some 8), none, .lens (t 7)⟩, ⟨(some 9), none, .bin .geq (t 6) (t 8)⟩, Im 10 9, Jm 11 10 true 0, Jm 12 10 true 1, ⟨(some 13), (some (10, true)), .lens (t 12)⟩, ⟨(some 14), (some (10, true)), .subs (t 11) none (some (t 13))⟩, Jm 15 10 true 1, ⟨(some 16), (some (10, true)), .bin .eql (t 14) (t 15)⟩, ⟨(some 17), none, .pick (t 10) (t 16) (k (.bool false))⟩, Im 4 17])
  .ret))
theorem fn186 : Fn Go.Proofs.Tryz.prog 186 18 [.inl 4] c186 :=
  ⟨⟨_, _, Go.Proofs.Tryz.func186, rfl, by kernel_rfl, Go.Proofs.Tryz.ntmps186, by kernel_rfl, ⟨fun f => imp.contains f, false, fun _ => false, false⟩, by kernel_rfl⟩⟩
def c199 : C :=
  (.seq (.reg [⟨(some 2), none, .mv (k (.bool false))⟩])
  (.seq (.reg [Im 3 0, Ip 4 147 [(t 3)], Im 5 4, Jm 6 5 false 0, ⟨(some 7), (some (5, false)), .pcall (k (.fn 148 [] [])) [(t 6)]⟩, ⟨(some 8), none, .pick (t 5) (k (.bool true)) (t 7)⟩, Im 2 8])
  .ret))
theorem fn199 : Fn Go.Proofs.Tryz.prog 199 9 [.inl 2] c199 :=
  ⟨⟨_, _, Go.Proofs.Tryz.func199, rfl, by kernel_rfl, Go.Proofs.Tryz.ntmps199, by kernel_rfl, ⟨fun f => imp.contains f, false, fun _ => false, false⟩, by kernel_rfl⟩⟩
end GP
namespace GP
open Go Go.Proofs
open Rd O
set_option maxRecDepth 100000
def c4 : C :=
  (.seq (.reg [⟨(some 2), none, .mv (k (.bool false))⟩])
  (.seq (.seq (.reg [Ip 6 18 [], ⟨(some 7), none, .un .not (t 6)⟩, Im 8 7, Jm 9 8 false 0, ⟨(some 10), (some (8, false)), .len (t 9)⟩, ⟨(some 11), (some (8, false)), .bin .gtr (t 10) (Ki 80)⟩, ⟨(some 12), none, .pick (t 8) (k (.bool true)) (t 11)⟩])
  (.cond (t 12)
  (.seq (.reg [Ip 13 18 [], Im 2 13])
  .ret)
  .skip))
  (.seq (.reg [Im 15 0, Ip 16 19 [(t 15)], Im 14 16, Ie 17 0 14, Ie 18 1 14, Ie 19 2 14, ⟨(some 3), none, .alloc [(.str []), (.int .i64 0), (.int .i64 0), (.str []), .nils, (.str []), (.str []), .nils]⟩, Is 8 3 17, Im 4 18, Im 5 19])
  (.seq (.seq (.reg [Im 20 5, ⟨(some 21), none, .bin .neq (t 20) (Ki 0)⟩])
  (.cond (t 21)
  (.seq (.reg [Im 22 5, ⟨(some 23), none, .bin .eql (t 22) (Ki 2)⟩, Im 24 23, Jm 25 24 false 5, ⟨(some 26), (some (24, false)), .bin .eql (t 25) (Ki 11)⟩, Jm 27 24 false 26, Jm 28 27 true 4, ⟨(some 29), (some (27, true)), .bin .eql (t 28) (Ki 0)⟩, ⟨(some 30), (some (24, false)), .pick (t 27) (t 29) (k (.bool false))⟩, ⟨(some 31), none, .pick (t 24) (k (.bool true)) (t 30)⟩, Im 32 31, Jm 33 32 true 4, ⟨(some 34), (some (32, true)), .bin .geq (t 33) (Ki 0)⟩, ⟨(some 35), none, .pick (t 32) (t 34) (k (.bool false))⟩, Im 36 35, Jm 37 36 true 4, Jm 38 36 true 0, ⟨(some 39), (some (36, true)), .len (t 38)⟩, ⟨(some 40), (some (36, true)), .bin .leq (t 37) (t 39)⟩, ⟨(some 41), none, .pick (t 36) (t 40) (k (.bool false))⟩, Im 42 41, ⟨(some 43), (some (42, true)), .load true 8 (t 3)⟩, ⟨(some 44), (some (42, true)), .build [(.str []), (.int .i64 0), (.int .i64 0), (.str []), .nils, (.str []), (.str []), .nils] []⟩, ⟨(some 45), (some (42, true)), .pcall (k (.fn 20 [] [])) [(t 43), (t 44)]⟩, ⟨(some 46), none, .pick (t 42) (t 45) (k (.bool false))⟩, Im 2 46])
  .ret)
  .skip))
  (.seq (.draw 0 [(Im 47 4, []), (⟨(some 48), none, .bin .eql (t 47) (Ki 0)⟩, []), (Im 49 48, []), (⟨(some 50), (some (49, true)), .load true 8 (t 3)⟩, []), (⟨(some 51), (some (49, true)), .pcall (k (.fn 21 [] [])) [(t 50)]⟩, []), (⟨(some 52), none, .pick (t 49) (t 51) (k (.bool false))⟩, []), (Im 53 52, []), (⟨(some 54), (some (53, true)), .load true 8 (t 3)⟩, []), (⟨(some 55), (some (53, true)), .pcall (k (.fn 22 [] [])) [(t 54)]⟩, []), (⟨(some 56), (some (53, true)), .bin .leq (t 55) (Ki 12)⟩, []), (⟨(some 57), none, .pick (t 53) (t 56) (k (.bool false))⟩, []), (Im 58 57, []), (Jm 59 58 true 0, []), (⟨(some 60), (some (58, true)), .pcall (k (.fn 23 [] [])) [(t 59)]⟩, []), (⟨(some 61), (some (58, true)), .load true 8 (t 3)⟩, []), (⟨(some 62), (some (58, true)), .pcall (k (.fn 24 [] [])) [(t 61), (k (.bool true))]⟩, []), (⟨(some 63), (some (58, true)), .pcall (k (.fn 23 [] [])) [(t 62)]⟩, []), (⟨(some 64), (some (58, true)), .bin .eql (t 60) (t 63)⟩, []), (⟨(some 65), none, .pick (t 58) (t 64) (k (.bool false))⟩, []), (Im 2 65, [])])
  .ret)))))
def c22 : C :=
  (.seq (.reg [⟨(some 1), none, .box (t 0)⟩, ⟨(some 2), none, .mv (Ki 0)⟩])
  (.seq (.reg [⟨(some 3), none, .mv (Ki 1)⟩])
  (.seq (.seq (.reg [⟨(some 4), none, .mv (Ki 0)⟩])
  (.block 0
  (.loop
  (.seq (.seq (.reg [Im 5 4, If 6 7 1, Il 7 6, Iz 8 7, ⟨(some 9), none, .bin .lss (t 5) (t 8)⟩])
  (.cond (t 9)
  .skip
  (.exit 0)))
  (.seq (.block 1
  (.reg [Im 12 3, If 13 7 1, Il 14 13, Im 15 4, ⟨(some 16), none, .iaddr 8 (t 14) (t 15)⟩, Ia 17 8 16, Ip 18 22 [(t 17)], ⟨(some 19), none, .bin .add (Ki 1) (t 18)⟩, ⟨(some 20), none, .mx (t 12) (t 19)⟩, Im 3 20]))
  (.reg [Im 10 4, ⟨(some 11), none, .bin .add (t 10) (Ki 1)⟩, Im 4 11]))))))
  (.seq (.reg [Im 21 3, Im 2 21])
  .ret))))
theorem fn22 : Fn Go.Proofs.Tryz.prog 22 22 [.inl 2] c22 :=
  ⟨⟨_, _, Go.Proofs.Tryz.func22, rfl, by kernel_rfl, Go.Proofs.Tryz.ntmps22, by kernel_rfl, ⟨fun f => imp.contains f, false, fun _ => false, false⟩, by kernel_rfl⟩⟩
def c47 : C :=
  (.seq (.reg [⟨(some 4), none, .mv (k (.bool false))⟩])
  (.seq (.reg [Im 5 0, Im 6 1, Ip 7 102 [(t 5), (t 6)], ⟨(some 8), none, .bin .geq (t 7) (Ki 0)⟩, Im 4 8])
  .ret))
theorem fn47 : Fn Go.Proofs.Tryz.prog 47 9 [.inl 4] c47 :=
  ⟨⟨_, _, Go.Proofs.Tryz.func47, rfl, by kernel_rfl, Go.Proofs.Tryz.ntmps47, by kernel_rfl, ⟨fun f => imp.contains f, false, fun _ => false, false⟩, by kernel_rfl⟩⟩
def c52 : C :=
  (.seq (.reg [⟨(some 2), none, .mv (Ki 0)⟩])
  (.seq (.reg [Ip 5 106 [], Im 3 5])
  (.seq (.seq (.reg [⟨(some 4), none, .mv (Ki 0)⟩])
  (.block 0
  (.loop
  (.seq (.seq (.reg [Im 6 4, Im 7 3, Iz 8 7, ⟨(some 9), none, .bin .lss (t 6) (t 8)⟩])
  (.cond (t 9)
  .skip
  (.exit 0)))
  (.seq (.block 1
  (.seq (.reg [Im 12 3, Im 13 4, ⟨(some 14), none, .iaddr 1 (t 12) (t 13)⟩, Il 15 14, Im 16 0, Ip 17 62 [(t 15), (t 16)]])
  (.cond (t 17)
  (.seq (.reg [⟨(some 18), none, .build [(.int .i64 0), (.int .i64 0), (.int .i64 0), (.int .i64 0), (.int .i64 0)] [(0, 1, (Ki 0)), (1, 1, (Ki 1)), (2, 1, (Ki 3)), (3, 1, (Ki 4)), (4, 1, (Ki 5))]⟩, Im 19 4, ⟨(some 20), none, .idxa false 1 5 (t 18) (t 19)⟩, Im 2 20])
  .ret)
  .skip)))
  (.reg [Im 10 4, ⟨(some 11), none, .bin .add (t 10) (Ki 1)⟩, Im 4 11]))))))
  (.seq (.seq (.reg [Im 21 0, ⟨(some 22), none, .bin .eql (t 21) (k (.str [110, 111, 116]))⟩])
  (.cond (t 22)
  (.seq (.reg [⟨(some 2), none, .mv (Ki 2)⟩])
  .ret)
  .skip))
  (.seq (.seq (.reg [Im 23 0, ⟨(some 24), none, .bin .eql (t 23) (k (.str [110, 101, 103]))⟩])
  (.cond (t 24)
  (.seq (.reg [⟨(some 2), none, .mv (Ki 6)⟩])
  .ret)
  .skip))
  (.seq (.seq (.reg [⟨(some 25), none, .bsl 1 [(k (.str [118, 97, 108, 117, 101])), (k (.str [110, 111, 119])), (k (.str [97, 116, 116, 114])), (k (.str [104, 97, 115])), (k (.str [114, 111, 108, 101])), (k (.str [115, 105, 122, 101]))]⟩, Im 26 0, Ip 27 62 [(t 25), (t 26)]])
  (.cond (t 27)
  (.seq (.reg [⟨(some 2), none, .mv (Ki 7)⟩])
  .ret)
  .skip))
  (.seq (.reg [⟨(some 2), none, .mv (k (.int .i64 (-1)))⟩])
  .ret)))))))
theorem fn52 : Fn Go.Proofs.Tryz.prog 52 28 [.inl 2] c52 :=
  ⟨⟨_, _, Go.Proofs.Tryz.func52, rfl, by kernel_rfl, Go.Proofs.Tryz.ntmps52, by kernel_rfl, ⟨fun f => imp.contains f, false, fun _ => false, false⟩, by kernel_rfl⟩⟩
def c53 : C :=
  (.seq (.reg [⟨(some 1), none, .box (t 0)⟩, ⟨(some 2), none, .mv (k (.bool false))⟩])
  (.seq (.seq (.reg [Ia 4 4 1, Ip 5 107 [(t 4)], ⟨(some 6), none, .un .not (t 5)⟩])
  (.cond (t 6)
  (.seq (.reg [⟨(some 2), none, .mv (k (.bool false))⟩])
  .ret)
  .skip))
  (.seq (.seq (.reg [If 7 0 1, Il 8 7, ⟨(some 9), none, .bin .neq (t 8) (Ki 5)⟩])
  (.cond (t 9)
  (.seq (.reg [Ia 10 4 1, Ip 11 108 [(t 10), (k (.bool false))], Im 2 11])
  .ret)
  .skip))
  (.seq (.seq (.reg [⟨(some 3), none, .mv (Ki 0)⟩])
  (.block 0
  (.loop
  (.seq (.seq (.reg [Im 12 3, If 13 3 1, Il 14 13, Iz 15 14, ⟨(some 16), none, .bin .lss (t 12) (t 15)⟩])
  (.cond (t 16)
  .skip
  (.exit 0)))
  (.seq (.block 1
  (.seq (.reg [If 19 3 1, Il 20 19, Im 21 3, ⟨(some 22), none, .iaddr 4 (t 20) (t 21)⟩, Ia 23 4 22, Ip 24 108 [(t 23), (k (.bool true))], ⟨(some 25), none, .un .not (t 24)⟩])
  (.cond (t 25)
  (.seq (.reg [⟨(some 2), none, .mv (k (.bool false))⟩])
  .ret)
  .skip)))
  (.reg [Im 17 3, ⟨(some 18), none, .bin .add (t 17) (Ki 1)⟩, Im 3 18]))))))
  (.seq (.reg [If 26 3 1, Il 27 26, Iz 28 27, ⟨(some 29), none, .bin .gtr (t 28) (Ki 0)⟩, Im 2 29])
  .ret)))))
theorem fn53 : Fn Go.Proofs.Tryz.prog 53 30 [.inl 2] c53 :=
  ⟨⟨_, _, Go.Proofs.Tryz.func53, rfl, by kernel_rfl, Go.Proofs.Tryz.ntmps53, by kernel_rfl, ⟨fun f => imp.contains f, false, fun _ => false, false⟩, by kernel_rfl⟩⟩
def c55 : C :=
  (.seq (.reg [⟨(some 2), none, .mv (k (.bool false))⟩])
  (.seq (.reg [⟨(some 3), none, .bsl 1 [(k (.str [115, 117, 98, 106, 101, 99, 116])), (k (.str [114, 101, 115, 111, 117, 114, 99, 101])), (k (.str [97, 99, 116, 105, 111, 110])), (k (.str [101, 110, 118]))]⟩, Im 4 0, Ip 5 62 [(t 3), (t 4)], Im 2 5])
  .ret))
theorem fn55 : Fn Go.Proofs.Tryz.prog 55 6 [.inl 2] c55 :=
  ⟨⟨_, _, Go.Proofs.Tryz.func55, rfl, by kernel_rfl, Go.Proofs.Tryz.ntmps55, by kernel_rfl, ⟨fun f => imp.contains f, false, fun _ => false, false⟩, by kernel_rfl⟩⟩
def c107 : C :=
  (.seq (.reg [⟨(some 1), none, .box (t 0)⟩, ⟨(some 2), none, .mv (k (.bool false))⟩])
  (.seq (.seq (.reg [If 4 0 1, Il 5 4, ⟨(some 6), none, .bin .neq (t 5) (Ki 5)⟩])
  (.cond (t 6)
  (.seq (.reg [Ia 7 4 1, Ip 8 171 [(t 7)], Im 2 8])
  .ret)
  .skip))
  (.seq (.seq (.reg [If 9 1 1, Il 10 9, ⟨(some 11), none, .bin .neq (t 10) (Ki 0)⟩, Im 12 11, Jf 13 12 false 2 1, Jl 14 12 false 13, ⟨(some 15), (some (12, false)), .bin .neq (t 14) (k (.str []))⟩, ⟨(some 16), none, .pick (t 12) (k (.bool true)) (t 15)⟩, Im 17 16, Jf 18 17 false 3 1, Jl 19 17 false 18, ⟨(some 20), (some (17, false)), .len (t 19)⟩, ⟨(some 21), (some (17, false)), .bin .gtr (t 20) (Ki 16)⟩, ⟨(some 22), none, .pick (t 17) (k (.bool true)) (t 21)⟩])
  (.cond (t 22)
  (.seq (.reg [⟨(some 2), none, .mv (k (.bool false))⟩])
  .ret)
  .skip))
  (.seq (.seq (.reg [⟨(some 3), none, .mv (Ki 0)⟩])
  (.block 0
  (.loop
  (.seq (.seq (.reg [Im 23 3, If 24 3 1, Il 25 24, Iz 26 25, ⟨(some 27), none, .bin .lss (t 23) (t 26)⟩])
  (.cond (t 27)
  .skip
  (.exit 0)))
  (.seq (.block 1
  (.seq (.draw 0 [(If 30 3 1, []), (Il 31 30, []), (Im 32 3, []), (⟨(some 33), none, .iaddr 4 (t 31) (t 32)⟩, []), (Ia 34 4 33, []), (Ip 35 171 [(t 34)], []), (⟨(some 36), none, .un .not (t 35)⟩, []), (Im 37 36, []), (Jf 38 37 false 3 1, []), (Jl 39 37 false 38, []), (Jm 40 37 false 3, []), (⟨(some 41), (some (37, false)), .iaddr 4 (t 39) (t 40)⟩, []), (Jf 42 37 false 0 41, []), (Jl 43 37 false 42, []), (⟨(some 44), (some (37, false)), .bin .eql (t 43) (Ki 0)⟩, []), (⟨(some 45), none, .pick (t 37) (k (.bool true)) (t 44)⟩, []), (Im 46 45, []), (Jf 47 46 false 3 1, []), (Jl 48 46 false 47, []), (Jm 49 46 false 3, []), (⟨(some 50), (some (46, false)), .iaddr 4 (t 48) (t 49)⟩, []), (Jf 51 46 false 0 50, []), (Jl 52 46 false 51, []), (Jf 53 46 false 3 1, []), (Jl 54 46 false 53, []), (⟨(some 55), (some (46, false)), .iaddr 4 (t 54) (Ki 0)⟩, []), (Jf 56 46 false 0 55, []), (Jl 57 46 false 56, []), (⟨(some 58), (some (46, false)), .bin .neq (t 52) (t 57)⟩, []), (⟨(some 59), none, .pick (t 46) (k (.bool true)) (t 58)⟩, []), (Im 60 59, []), (Jm 61 60 false 3, []), (⟨(some 62), (some (60, false)), .bin .gtr (t 61) (Ki 0)⟩, []), (Jm 63 60 false 62, []), (Jf 64 63 true 3 1, []), (Jl 65 63 true 64, []), (Jm 66 63 true 3, []), (⟨(some 67), (some (63, true)), .bin .sub (t 66) (Ki 1)⟩, []), (⟨(some 68), (some (63, true)), .iaddr 4 (t 65) (t 67)⟩, []), (⟨(some 69), (some (63, true)), .load true 4 (t 68)⟩, []), (Jf 70 63 true 3 1, []), (Jl 71 63 true 70, []), (Jm 72 63 true 3, []), (⟨(some 73), (some (63, true)), .iaddr 4 (t 71) (t 72)⟩, []), (⟨(some 74), (some (63, true)), .load true 4 (t 73)⟩, []), (⟨(some 75), (some (63, true)), .pcall (k (.fn 172 [] [])) [(t 69), (t 74)]⟩, []), (⟨(some 76), (some (63, true)), .bin .geq (t 75) (Ki 0)⟩, []), (⟨(some 77), (some (60, false)), .pick (t 63) (t 76) (k (.bool false))⟩, []), (⟨(some 78), none, .pick (t 60) (k (.bool true)) (t 77)⟩, [])])
  (.cond (t 78)
  (.seq (.reg [⟨(some 2), none, .mv (k (.bool false))⟩])
  .ret)
  .skip)))
  (.reg [Im 28 3, ⟨(some 29), none, .bin .add (t 28) (Ki 1)⟩, Im 3 29]))))))
  (.seq (.reg [⟨(some 2), none, .mv (k (.bool true))⟩])
  .ret)))))
theorem fn107 : Fn Go.Proofs.Tryz.prog 107 79 [.inl 2] c107 :=
  ⟨⟨_, _, Go.Proofs.Tryz.func107, rfl, by kernel_rfl, Go.Proofs.Tryz.ntmps107, by kernel_rfl, ⟨fun f => imp.contains f, false, fun _ => false, false⟩, by kernel_rfl⟩⟩
def c144 : C :=
  (.seq (.reg [⟨(some 6), none, .mv (Ki 0)⟩])
  (.seq (.reg [Im 8 1, Im 7 8])
  (.seq (.block 0
  (.loop
  (.seq (.seq (.reg [Im 9 7, Im 10 0, ⟨(some 11), none, .lens (t 10)⟩, ⟨(some 12), none, .bin .lss (t 9) (t 11)⟩, Im 13 12, Jm 14 13 true 2, Jm 15 13 true 0, Jm 16 13 true 7, ⟨(some 17), (some (13, true)), .idxs (t 15) (t 16)⟩, ⟨(some 18), (some (13, true)), .pcall (t 14) [(t 17)]⟩, ⟨(some 19), none, .pick (t 13) (t 18) (k (.bool false))⟩])
  (.cond (t 19)
  .skip
  (.exit 0)))
  (.block 1
  (.reg [Im 20 7, ⟨(some 21), none, .bin .add (t 20) (Ki 1)⟩, Im 7 21])))))
  (.seq (.reg [Im 22 7, Im 23 1, ⟨(some 24), none, .bin .sub (t 22) (t 23)⟩, Im 6 24])
  .ret))))
theorem fn144 : Fn Go.Proofs.Tryz.prog 144 25 [.inl 6] c144 :=
  ⟨⟨_, _, Go.Proofs.Tryz.func144, rfl, by kernel_rfl, Go.Proofs.Tryz.ntmps144, by kernel_rfl, ⟨fun f => imp.contains f, false, fun _ => false, false⟩, by kernel_rfl⟩⟩
def c151 : C :=
  (.seq (.reg [⟨(some 0), none, .mv (k .nils)⟩])
  (.seq (.reg [⟨(some 1), none, .bsl 1 [(k (.str [61, 61])), (k (.str [33, 61])), (k (.str [60, 61])), (k (.str [62, 61])), (k (.str [123])), (k (.str [125])), (k (.str [40])), (k (.str [41])), (k (.str [91])), (k (.str [93])), (k (.str [59])), (k (.str [46])), (k (.str [44])), (k (.str [43])), (k (.str [45])), (k (.str [42])), (k (.str [60])), (k (.str [62]))]⟩, Im 0 1])
  .ret))
theorem fn151 : Fn Go.Proofs.Tryz.prog 151 2 [.inl 0] c151 :=
  ⟨⟨_, _, Go.Proofs.Tryz.func151, rfl, by kernel_rfl, Go.Proofs.Tryz.ntmps151, by kernel_rfl, ⟨fun f => imp.contains f, false, fun _ => false, false⟩, by kernel_rfl⟩⟩
def c236 : C :=
  (.seq (.reg [⟨(some 2), none, .alloc [(.str []), (.int .i64 0), (.int .i64 0), (.str []), .nils, (.str []), (.str []), .nils]⟩])
  (.seq (.seq (.reg [Im 3 0, Ic 4 69 [(t 3), (k (.str [45]))]])
  (.cond (t 4)
  (.seq (.reg [Im 5 0, Ic 6 236 [(t 5)], ⟨(some 7), none, .bsl 8 [(t 6)]⟩, ⟨(some 8), none, .build [(.str []), (.int .i64 0), (.int .i64 0), (.str []), .nils, (.str []), (.str []), .nils] [(0, 1, (k (.str [110, 101, 103]))), (7, 1, (t 7))]⟩, Is 8 2 8])
  .ret)
  .skip))
  (.seq (.reg [Im 9 0, Ic 10 238 [(t 9)], Is 8 2 10])
  .ret)))
theorem fn236 : Fn Go.Proofs.Tryz.prog 236 11 [.inr (2, true, 8)] c236 :=
  ⟨⟨_, _, Go.Proofs.Tryz.func236, rfl, by kernel_rfl, Go.Proofs.Tryz.ntmps236, by kernel_rfl, ⟨fun f => imp.contains f, false, fun _ => false, false⟩, by kernel_rfl⟩⟩
def c245 : C :=
  (.seq (.reg [⟨(some 2), none, .alloc [(.int .i64 0), (.int .i64 0), (.str []), .nils]⟩])
  (.seq (.seq (.reg [Im 5 0, Ic 6 69 [(t 5), (k (.str [45]))]])
  (.cond (t 6)
  (.seq (.reg [Im 7 0, Ic 8 120 [(t 7), (Ki 2)], ⟨(some 9), none, .field false 2 1 (t 8)⟩, ⟨(some 10), none, .un .neg (t 9)⟩, Ip 11 242 [(t 10)], Is 4 2 11])
  .ret)
  .skip))
  (.seq (.reg [Im 13 0, Ic 14 239 [(t 13)], Im 12 14, Ie 15 0 12, Ie 16 1 12, ⟨(some 3), none, .alloc [(.int .i64 0), (.int .i64 0), (.str []), .nils]⟩, Is 4 3 15, Im 4 16])
  (.seq (.seq (.reg [Im 17 4, ⟨(some 18), none, .un .not (t 17)⟩])
  (.cond (t 18)
  (.reg [Im 19 0, Im 20 0, In 21 20, If 22 1 21, Il 23 22, Ic 24 105 [(t 19), (t 23), (Ki 2)]])
  .skip))
  (.seq (.reg [Ia 25 4 3, Is 4 2 25])
  .ret)))))
theorem fn245 : Fn Go.Proofs.Tryz.prog 245 26 [.inr (2, true, 4)] c245 :=
  ⟨⟨_, _, Go.Proofs.Tryz.func245, rfl, by kernel_rfl, Go.Proofs.Tryz.ntmps245, by kernel_rfl, ⟨fun f => imp.contains f, false, fun _ => false, false⟩, by kernel_rfl⟩⟩
def c246 : C :=
  (.seq (.reg [⟨(some 2), none, .alloc [(.int .i64 0), (.int .i64 0), (.str []), .nils]⟩, ⟨(some 3), none, .mv (Ki 0)⟩])
  (.seq (.seq (.reg [Im 9 0, Iz 10 9, ⟨(some 11), none, .mv (Ki 0)⟩])
  (.block 0
  (.loop
  (.seq (.reg [⟨(some 12), none, .bin .lss (t 11) (t 10)⟩])
  (.seq (.cond (t 12)
  .skip
  (.exit 0))
  (.seq (.block 1
  (.seq (.reg [⟨(some 13), none, .iaddr 4 (t 9) (t 11)⟩, Ia 14 4 13, ⟨(some 5), none, .alloc [(.int .i64 0), (.int .i64 0), (.str []), .nils]⟩, Is 4 5 14])
  (.seq (.reg [Ia 15 4 5, Ip 16 129 [(t 15)], ⟨(some 17), none, .un .not (t 16)⟩])
  (.cond (t 17)
  (.seq (.reg [⟨(some 18), none, .build [(.int .i64 0), (.int .i64 0), (.str []), .nils] []⟩, Is 4 2 18, ⟨(some 3), none, .mv (Ki 1)⟩])
  .ret)
  .skip))))
  (.reg [⟨(some 19), none, .bin .add (t 11) (Ki 1)⟩, Im 11 19])))))))
  (.seq (.seq (.reg [Im 20 0, Iz 21 20, ⟨(some 22), none, .mv (Ki 0)⟩])
  (.block 2
  (.loop
  (.seq (.reg [⟨(some 23), none, .bin .lss (t 22) (t 21)⟩])
  (.seq (.cond (t 23)
  .skip
  (.exit 2))
  (.seq (.block 3
  (.seq (.reg [⟨(some 24), none, .iaddr 4 (t 20) (t 22)⟩, Ia 25 4 24, ⟨(some 7), none, .alloc [(.int .i64 0), (.int .i64 0), (.str []), .nils]⟩, Is 4 7 25])
  (.seq (.draw 0 [(If 26 0 7, []), (Il 27 26, []), (⟨(some 28), none, .bin .eql (t 27) (Ki 0)⟩, []), (Im 29 28, []), (Jf 30 29 false 0 7, []), (Jl 31 29 false 30, []), (⟨(some 32), (some (29, false)), .bin .eql (t 31) (Ki 5)⟩, []), (⟨(some 33), none, .pick (t 29) (k (.bool true)) (t 32)⟩, []), (Im 34 33, []), (Jf 35 34 false 0 7, []), (Jl 36 34 false 35, []), (Jm 37 34 false 0, []), (⟨(some 38), (some (34, false)), .iaddr 4 (t 37) (Ki 0)⟩, []), (Jf 39 34 false 0 38, []), (Jl 40 34 false 39, []), (⟨(some 41), (some (34, false)), .bin .neq (t 36) (t 40)⟩, []), (⟨(some 42), none, .pick (t 34) (k (.bool true)) (t 41)⟩, [])])
  (.cond (t 42)
  (.seq (.reg [⟨(some 43), none, .build [(.int .i64 0), (.int .i64 0), (.str []), .nils] []⟩, Is 4 2 43, ⟨(some 3), none, .mv (Ki 6)⟩])
  .ret)
  .skip))))
  (.reg [⟨(some 44), none, .bin .add (t 22) (Ki 1)⟩, Im 22 44])))))))
  (.seq (.reg [Im 45 0, Ic 46 247 [(t 45)], Im 8 46])
  (.seq (.reg [Im 47 8, Ic 48 248 [(t 47), (k (.fn 64 [] []))]])
  (.seq (.reg [Im 49 8, Ic 50 249 [(t 49), (k (.fn 250 [] []))], Im 8 50])
  (.seq (.seq (.reg [Im 51 8, Iz 52 51, ⟨(some 53), none, .bin .gtr (t 52) (Ki 16)⟩])
  (.cond (t 53)
  (.seq (.reg [⟨(some 54), none, .build [(.int .i64 0), (.int .i64 0), (.str []), .nils] []⟩, Is 4 2 54, ⟨(some 3), none, .mv (Ki 13)⟩])
  .ret)
  .skip))
  (.seq (.reg [Im 55 8, ⟨(some 56), none, .build [(.int .i64 0), (.int .i64 0), (.str []), .nils] [(0, 1, (Ki 5)), (3, 1, (t 55))]⟩, Is 4 2 56, ⟨(some 3), none, .mv (Ki 0)⟩])
  .ret))))))))
theorem fn246 : Fn Go.Proofs.Tryz.prog 246 57 [.inr (2, true, 4), .inl 3] c246 :=
  ⟨⟨_, _, Go.Proofs.Tryz.func246, rfl, by kernel_rfl, Go.Proofs.Tryz.ntmps246, by kernel_rfl, ⟨fun f => imp.contains f, true, fun _ => false, false⟩, by kernel_rfl⟩⟩
def c248 : C :=
  (.seq (.reg [Im 5 0, Iz 6 5, Im 4 6])
  (.reg [Im 7 0, Im 8 4, Im 9 4, ⟨(some 10), none, .conv .u64 (t 9)⟩, Ip 11 252 [(t 10)], Im 12 1, Ip 13 251 [(t 7), (Ki 0), (t 8), (t 11), (t 12)]]))
theorem fn248 : Fn Go.Proofs.Tryz.prog 248 14 [] c248 :=
  ⟨⟨_, _, Go.Proofs.Tryz.func248, rfl, by kernel_rfl, Go.Proofs.Tryz.ntmps248, by kernel_rfl, ⟨fun f => imp.contains f, false, fun _ => false, false⟩, by kernel_rfl⟩⟩
def c250 : C :=
  (.seq (.reg [⟨(some 2), none, .box (t 0)⟩, ⟨(some 3), none, .box (t 1)⟩, ⟨(some 4), none, .mv (k (.bool false))⟩])
  (.seq (.reg [Ia 5 4 2, Ia 6 4 3, Ip 7 64 [(t 5), (t 6)], ⟨(some 8), none, .bin .eql (t 7) (Ki 0)⟩, Im 4 8])
  .ret))
theorem fn250 : Fn Go.Proofs.Tryz.prog 250 9 [.inl 4] c250 :=
  ⟨⟨_, _, Go.Proofs.Tryz.func250, rfl, by kernel_rfl, Go.Proofs.Tryz.ntmps250, by kernel_rfl, ⟨fun f => imp.contains f, false, fun _ => false, false⟩, by kernel_rfl⟩⟩
end GP
namespace GP
open Go Go.Proofs
open Rd O
set_option maxRecDepth 100000
def c17 : C :=
  (.seq (.reg [⟨(some 2), none, .mv (k (.bool false))⟩])
  (.seq (.reg [Ip 3 48 [], Im 4 0, Ip 5 47 [(t 3), (t 4)], Im 2 5])
  .ret))
theorem fn17 : Fn Go.Proofs.Tryz.prog 17 6 [.inl 2] c17 :=
  ⟨⟨_, _, Go.Proofs.Tryz.func17, rfl, by kernel_rfl, Go.Proofs.Tryz.ntmps17, by kernel_rfl, ⟨fun f => imp.contains f, false, fun _ => false, false⟩, by kernel_rfl⟩⟩
def c26 : C :=
  (.seq (.reg [⟨(some 1), none, .box (t 0)⟩, ⟨(some 2), none, .mv (Ki 0)⟩])
  (.seq (.reg [⟨(some 3), none, .mv (Ki 0)⟩])
  (.seq (.seq (.reg [If 6 7 1, Il 7 6, Iz 8 7, ⟨(some 9), none, .mv (Ki 0)⟩])
  (.block 0
  (.loop
  (.seq (.reg [⟨(some 10), none, .bin .lss (t 9) (t 8)⟩])
  (.seq (.cond (t 10)
  .skip
  (.exit 0))
  (.seq (.block 1
  (.seq (.reg [⟨(some 11), none, .iaddr 8 (t 7) (t 9)⟩, Ia 12 8 11, ⟨(some 5), none, .alloc [(.str []), (.int .i64 0), (.int .i64 0), (.str []), .nils, (.str []), (.str []), .nils]⟩, Is 8 5 12])
  (.reg [Im 13 3, Ia 14 8 5, Ip 15 26 [(t 14)], ⟨(some 16), none, .mx (t 13) (t 15)⟩, Im 3 16])))
  (.reg [⟨(some 17), none, .bin .add (t 9) (Ki 1)⟩, Im 9 17])))))))
  (.seq (.reg [Im 18 3, ⟨(some 19), none, .bin .add (t 18) (Ki 1)⟩, Im 2 19])
  .ret))))
theorem fn26 : Fn Go.Proofs.Tryz.prog 26 20 [.inl 2] c26 :=
  ⟨⟨_, _, Go.Proofs.Tryz.func26, rfl, by kernel_rfl, Go.Proofs.Tryz.ntmps26, by kernel_rfl, ⟨fun f => imp.contains f, false, fun _ => false, false⟩, by kernel_rfl⟩⟩
def c27 : C :=
  (.seq (.reg [⟨(some 2), none, .box (t 0)⟩, ⟨(some 3), none, .box (t 1)⟩, ⟨(some 4), none, .mv (k (.bool false))⟩])
  (.seq (.reg [If 5 0 2, Il 6 5, If 7 0 3, Il 8 7, ⟨(some 9), none, .bin .eql (t 6) (t 8)⟩, Im 10 9, Jf 11 10 true 5 2, Jl 12 10 true 11, Jf 13 10 true 5 3, Jl 14 10 true 13, ⟨(some 15), (some (10, true)), .bin .eql (t 12) (t 14)⟩, ⟨(some 16), none, .pick (t 10) (t 15) (k (.bool false))⟩, Im 17 16, Jf 18 17 true 6 2, Jl 19 17 true 18, Jf 20 17 true 6 3, Jl 21 17 true 20, ⟨(some 22), (some (17, true)), .bin .eql (t 19) (t 21)⟩, ⟨(some 23), none, .pick (t 17) (t 22) (k (.bool false))⟩, Im 24 23, Jf 25 24 true 1 2, ⟨(some 26), (some (24, true)), .load true 4 (t 25)⟩, Jf 27 24 true 1 3, ⟨(some 28), (some (24, true)), .load true 4 (t 27)⟩, ⟨(some 29), (some (24, true)), .pcall (k (.fn 64 [] [])) [(t 26), (t 28)]⟩, ⟨(some 30), (some (24, true)), .bin .eql (t 29) (Ki 0)⟩, ⟨(some 31), none, .pick (t 24) (t 30) (k (.bool false))⟩, Im 32 31, Jf 33 32 true 7 2, Jl 34 32 true 33, Jf 35 32 true 7 3, Jl 36 32 true 35, ⟨(some 37), (some (32, true)), .pcall (k (.fn 65 [] [])) [(t 34), (t 36), (k (.fn 27 [] []))]⟩, ⟨(some 38), none, .pick (t 32) (t 37) (k (.bool false))⟩, Im 4 38])
  .ret))
theorem fn27 : Fn Go.Proofs.Tryz.prog 27 39 [.inl 4] c27 :=
  ⟨⟨_, _, Go.Proofs.Tryz.func27, rfl, by kernel_rfl, Go.Proofs.Tryz.ntmps27, by kernel_rfl, ⟨fun f => imp.contains f, false, fun _ => false, false⟩, by kernel_rfl⟩⟩
def c59 : C :=
  (.seq (.reg [⟨(some 2), none, .alloc [(.int .i64 0), (.str []), (.int .i64 0)]⟩])
  (.seq (.reg [Im 3 0, ⟨(some 4), none, .build [(.int .i64 0), (.str []), (.int .i64 0)] [(0, 1, (Ki 1)), (1, 1, (t 3))]⟩, Is 3 2 4])
  .ret))
theorem fn59 : Fn Go.Proofs.Tryz.prog 59 5 [.inr (2, true, 3)] c59 :=
  ⟨⟨_, _, Go.Proofs.Tryz.func59, rfl, by kernel_rfl, Go.Proofs.Tryz.ntmps59, by kernel_rfl, ⟨fun f => imp.contains f, false, fun _ => false, false⟩, by kernel_rfl⟩⟩
def c65 : C :=
  (.seq (.reg [⟨(some 6), none, .mv (k (.bool false))⟩])
  (.seq (.seq (.reg [Im 10 0, Iz 11 10, Im 12 1, Iz 13 12, ⟨(some 14), none, .bin .neq (t 11) (t 13)⟩])
  (.cond (t 14)
  (.seq (.reg [⟨(some 6), none, .mv (k (.bool false))⟩])
  .ret)
  .skip))
  (.seq (.seq (.reg [Im 15 0, Iz 16 15, ⟨(some 17), none, .mv (Ki 0)⟩])
  (.block 0
  (.loop
  (.seq (.reg [⟨(some 18), none, .bin .lss (t 17) (t 16)⟩])
  (.seq (.cond (t 18)
  .skip
  (.exit 0))
  (.seq (.block 1
  (.seq (.reg [Im 19 17, ⟨(some 20), none, .iaddr 8 (t 15) (t 17)⟩, Ia 21 8 20, ⟨(some 8), none, .alloc [(.str []), (.int .i64 0), (.int .i64 0), (.str []), .nils, (.str []), (.str []), .nils]⟩, Im 7 19, Is 8 8 21])
  (.seq (.reg [Im 22 1, Im 23 7, ⟨(some 24), none, .iaddr 8 (t 22) (t 23)⟩, Ia 25 8 24, ⟨(some 9), none, .alloc [(.str []), (.int .i64 0), (.int .i64 0), (.str []), .nils, (.str []), (.str []), .nils]⟩, Is 8 9 25])
  (.seq (.reg [Im 26 2, Ia 27 8 8, Ia 28 8 9, ⟨(some 29), none, .pcall (t 26) [(t 27), (t 28)]⟩, ⟨(some 30), none, .un .not (t 29)⟩])
  (.cond (t 30)
  (.seq (.reg [⟨(some 6), none, .mv (k (.bool false))⟩])
  .ret)
  .skip)))))
  (.reg [⟨(some 31), none, .bin .add (t 17) (Ki 1)⟩, Im 17 31])))))))
  (.seq (.reg [⟨(some 6), none, .mv (k (.bool true))⟩])
  .ret))))
theorem fn65 : Fn Go.Proofs.Tryz.prog 65 32 [.inl 6] c65 :=
  ⟨⟨_, _, Go.Proofs.Tryz.func65, rfl, by kernel_rfl, Go.Proofs.Tryz.ntmps65, by kernel_rfl, ⟨fun f => imp.contains f, false, fun _ => false, false⟩, by kernel_rfl⟩⟩
def c71 : C :=
  (.seq (.reg [Im 4 0, Im 5 1, Ic 6 69 [(t 4), (t 5)], ⟨(some 7), none, .un .not (t 6)⟩])
  (.cond (t 7)
  (.reg [Im 8 0, Im 9 0, In 10 9, If 11 1 10, Il 12 11, Ic 13 105 [(t 8), (t 12), (Ki 2)]])
  .skip))
theorem fn71 : Fn Go.Proofs.Tryz.prog 71 14 [] c71 :=
  ⟨⟨_, _, Go.Proofs.Tryz.func71, rfl, by kernel_rfl, Go.Proofs.Tryz.ntmps71, by kernel_rfl, ⟨fun f => imp.contains f, false, fun _ => false, false⟩, by kernel_rfl⟩⟩
def c91 : C :=
  (.seq (.reg [⟨(some 4), none, .mv (Ki 0)⟩])
  (.seq (.block 0
  (.loop
  (.seq (.seq (.reg [Im 5 1, Im 6 0, ⟨(some 7), none, .lens (t 6)⟩, ⟨(some 8), none, .bin .lss (t 5) (t 7)⟩])
  (.cond (t 8)
  .skip
  (.exit 0)))
  (.block 1
  (.seq (.reg [Im 9 0, Im 10 1, ⟨(some 11), none, .idxs (t 9) (t 10)⟩])
  (.block 2
  (.seq (.seq (.reg [⟨(some 14), none, .bin .eql (t 11) (k (.int .u8 32))⟩, Im 13 14])
  (.cond (t 13)
  .skip
  (.reg [⟨(some 15), none, .bin .eql (t 11) (k (.int .u8 10))⟩, Im 13 15])))
  (.cond (t 13)
  (.reg [Im 16 1, ⟨(some 17), none, .bin .add (t 16) (Ki 1)⟩, Im 1 17])
  (.seq (.reg [⟨(some 19), none, .bin .eql (t 11) (k (.int .u8 35))⟩, Im 18 19])
  (.cond (t 18)
  (.reg [Im 20 1, Im 21 0, Im 22 1, Ip 23 144 [(t 21), (t 22), (k (.fn 145 [] []))], ⟨(some 24), none, .bin .add (t 20) (t 23)⟩, Im 1 24])
  (.seq (.reg [Im 12 1, Im 4 12])
  .ret)))))))))))
  (.seq (.reg [Im 25 1, Im 4 25])
  .ret)))
theorem fn91 : Fn Go.Proofs.Tryz.prog 91 26 [.inl 4] c91 :=
  ⟨⟨_, _, Go.Proofs.Tryz.func91, rfl, by kernel_rfl, Go.Proofs.Tryz.ntmps91, by kernel_rfl, ⟨fun f => imp.contains f, false, fun _ => false, false⟩, by kernel_rfl⟩⟩
def c150 : C :=
  (.seq (.reg [⟨(some 4), none, .mv (k (.str []))⟩, ⟨(some 5), none, .mv (Ki 0)⟩])
  (.seq (.reg [⟨(some 6), none, .mv (k .nils)⟩])
  (.seq (.seq (.reg [Im 9 1, ⟨(some 10), none, .bin .add (t 9) (Ki 1)⟩, Im 7 10])
  (.block 0
  (.loop
  (.seq (.seq (.reg [Im 11 7, Im 12 0, ⟨(some 13), none, .lens (t 12)⟩, ⟨(some 14), none, .bin .lss (t 11) (t 13)⟩])
  (.cond (t 14)
  .skip
  (.exit 0)))
  (.seq (.block 1
  (.seq (.reg [Im 17 0, Im 18 7, ⟨(some 19), none, .idxs (t 17) (t 18)⟩, Im 8 19])
  (.seq (.block 2
  (.seq (.reg [Im 21 8, ⟨(some 22), none, .bin .eql (t 21) (k (.int .u8 34))⟩, Im 20 22])
  (.cond (t 20)
  (.seq (.reg [Im 23 6, ⟨(some 24), none, .b2s (t 23)⟩, Im 25 7, ⟨(some 26), none, .bin .add (t 25) (Ki 1)⟩, Im 27 1, ⟨(some 28), none, .bin .sub (t 26) (t 27)⟩, Im 4 24, Im 5 28])
  .ret)
  (.seq (.reg [Im 30 8, ⟨(some 31), none, .bin .eql (t 30) (k (.int .u8 92))⟩, Im 29 31])
  (.cond (t 29)
  (.seq (.reg [Im 32 7, ⟨(some 33), none, .bin .add (t 32) (Ki 1)⟩, Im 7 33])
  (.seq (.seq (.reg [Im 34 7, Im 35 0, ⟨(some 36), none, .lens (t 35)⟩, ⟨(some 37), none, .bin .eql (t 34) (t 36)⟩, Im 38 37, Jm 39 38 false 0, Jm 40 38 false 7, ⟨(some 41), (some (38, false)), .idxs (t 39) (t 40)⟩, ⟨(some 42), (some (38, false)), .bin .neq (t 41) (k (.int .u8 34))⟩, Jm 43 38 false 42, Jm 44 43 true 0, Jm 45 43 true 7, ⟨(some 46), (some (43, true)), .idxs (t 44) (t 45)⟩, ⟨(some 47), (some (43, true)), .bin .neq (t 46) (k (.int .u8 92))⟩, ⟨(some 48), (some (38, false)), .pick (t 43) (t 47) (k (.bool false))⟩, ⟨(some 49), none, .pick (t 38) (k (.bool true)) (t 48)⟩])
  (.cond (t 49)
  (.seq (.reg [⟨(some 4), none, .mv (k (.str []))⟩, ⟨(some 5), none, .mv (Ki 0)⟩])
  .ret)
  .skip))
  (.reg [Im 50 0, Im 51 7, ⟨(some 52), none, .idxs (t 50) (t 51)⟩, Im 8 52])))
  (.seq (.reg [Im 54 8, ⟨(some 55), none, .bin .lss (t 54) (k (.int .u8 32))⟩, Im 56 55, Jm 57 56 false 8, ⟨(some 58), (some (56, false)), .bin .gtr (t 57) (k (.int .u8 126))⟩, ⟨(some 59), none, .pick (t 56) (k (.bool true)) (t 58)⟩, Im 53 59])
  (.cond (t 53)
  (.seq (.reg [⟨(some 4), none, .mv (k (.str []))⟩, ⟨(some 5), none, .mv (Ki 0)⟩])
  .ret)
  .skip)))))))
  (.seq (.reg [Im 60 6, Im 61 8, ⟨(some 62), none, .bsl 1 [(t 61)]⟩, ⟨(some 63), none, .app false 1 1 (t 60) (t 62)⟩, Im 6 63])
  (.seq (.reg [Im 64 6, Iz 65 64, ⟨(some 66), none, .bin .gtr (t 65) (Ki 64)⟩])
  (.cond (t 66)
  (.seq (.reg [⟨(some 4), none, .mv (k (.str []))⟩, ⟨(some 5), none, .mv (Ki 0)⟩])
  .ret)
  .skip))))))
  (.reg [Im 15 7, ⟨(some 16), none, .bin .add (t 15) (Ki 1)⟩, Im 7 16]))))))
  (.seq (.reg [⟨(some 4), none, .mv (k (.str []))⟩, ⟨(some 5), none, .mv (Ki 0)⟩])
  .ret))))
theorem fn150 : Fn Go.Proofs.Tryz.prog 150 67 [.inl 4, .inl 5] c150 :=
  ⟨⟨_, _, Go.Proofs.Tryz.func150, rfl, by kernel_rfl, Go.Proofs.Tryz.ntmps150, by kernel_rfl, ⟨fun f => imp.contains f, false, fun _ => false, false⟩, by kernel_rfl⟩⟩
def c162 : C :=
  (.seq (.reg [⟨(some 2), none, .mv (k (.bool false))⟩])
  (.seq (.reg [Im 3 0, ⟨(some 4), none, .bin .geq (t 3) (k (.int .u8 97))⟩, Im 5 4, Jm 6 5 true 0, ⟨(some 7), (some (5, true)), .bin .leq (t 6) (k (.int .u8 122))⟩, ⟨(some 8), none, .pick (t 5) (t 7) (k (.bool false))⟩, Im 2 8])
  .ret))
theorem fn162 : Fn Go.Proofs.Tryz.prog 162 9 [.inl 2] c162 :=
  ⟨⟨_, _, Go.Proofs.Tryz.func162, rfl, by kernel_rfl, Go.Proofs.Tryz.ntmps162, by kernel_rfl, ⟨fun f => imp.contains f, false, fun _ => false, false⟩, by kernel_rfl⟩⟩
def c166 : C :=
  (.seq (.reg [⟨(some 1), none, .box (t 0)⟩, ⟨(some 2), none, .mv (k (.bool false))⟩])
  (.seq (.seq (.reg [If 3 0 1, Il 4 3])
  (.block 0
  (.seq (.reg [⟨(some 6), none, .bin .eql (t 4) (Ki 1)⟩, Im 5 6])
  (.cond (t 5)
  (.seq (.draw 0 [(If 7 2 1, []), (Il 8 7, []), (⟨(some 9), none, .bin .eql (t 8) (Ki 0)⟩, []), (Im 10 9, []), (Jf 11 10 true 1 1, []), (Jl 12 10 true 11, []), (⟨(some 13), (some (10, true)), .lens (t 12)⟩, []), (⟨(some 14), (some (10, true)), .bin .geq (t 13) (Ki 1)⟩, []), (⟨(some 15), none, .pick (t 10) (t 14) (k (.bool false))⟩, []), (Im 16 15, []), (Jf 17 16 true 1 1, []), (Jl 18 16 true 17, []), (⟨(some 19), (some (16, true)), .lens (t 18)⟩, []), (⟨(some 20), (some (16, true)), .bin .leq (t 19) (Ki 64)⟩, []), (⟨(some 21), none, .pick (t 16) (t 20) (k (.bool false))⟩, []), (Im 22 21, []), (Jf 23 22 true 1 1, []), (Jl 24 22 true 23, []), (⟨(some 25), (some (22, true)), .idxs (t 24) (Ki 0)⟩, []), (⟨(some 26), (some (22, true)), .bin .geq (t 25) (k (.int .u8 97))⟩, []), (⟨(some 27), none, .pick (t 22) (t 26) (k (.bool false))⟩, []), (Im 28 27, []), (Jf 29 28 true 1 1, []), (Jl 30 28 true 29, []), (⟨(some 31), (some (28, true)), .idxs (t 30) (Ki 0)⟩, []), (⟨(some 32), (some (28, true)), .bin .leq (t 31) (k (.int .u8 122))⟩, []), (⟨(some 33), none, .pick (t 28) (t 32) (k (.bool false))⟩, []), (Im 34 33, []), (Jf 35 34 true 1 1, []), (Jl 36 34 true 35, []), (⟨(some 37), (some (34, true)), .pcall (k (.fn 144 [] [])) [(t 36), (Ki 0), (k (.fn 199 [] []))]⟩, []), (Jf 38 34 true 1 1, []), (Jl 39 34 true 38, []), (⟨(some 40), (some (34, true)), .lens (t 39)⟩, []), (⟨(some 41), (some (34, true)), .bin .eql (t 37) (t 40)⟩, []), (⟨(some 42), none, .pick (t 34) (t 41) (k (.bool false))⟩, []), (Im 2 42, [])])
  .ret)
  (.seq (.reg [⟨(some 44), none, .bin .eql (t 4) (Ki 2)⟩, Im 43 44])
  (.cond (t 43)
  (.seq (.reg [If 45 1 1, Il 46 45, ⟨(some 47), none, .bin .eql (t 46) (k (.str []))⟩, Im 48 47, Jf 49 48 true 2 1, Jl 50 48 true 49, ⟨(some 51), (some (48, true)), .bin .geq (t 50) (Ki 0)⟩, ⟨(some 52), none, .pick (t 48) (t 51) (k (.bool false))⟩, Im 2 52])
  .ret)
  (.seq (.reg [⟨(some 54), none, .bin .eql (t 4) (Ki 4)⟩, Im 53 54])
  (.cond (t 53)
  (.seq (.reg [If 55 1 1, Il 56 55, ⟨(some 57), none, .bin .eql (t 56) (k (.str []))⟩, Im 58 57, Jf 59 58 true 2 1, Jl 60 58 true 59, ⟨(some 61), (some (58, true)), .bin .geq (t 60) (Ki 0)⟩, ⟨(some 62), none, .pick (t 58) (t 61) (k (.bool false))⟩, Im 63 62, Jf 64 63 true 2 1, Jl 65 63 true 64, ⟨(some 66), (some (63, true)), .bin .leq (t 65) (Ki 1099511627776)⟩, ⟨(some 67), none, .pick (t 63) (t 66) (k (.bool false))⟩, Im 2 67])
  .ret)
  (.seq (.reg [⟨(some 69), none, .bin .eql (t 4) (Ki 3)⟩, Im 68 69])
  (.cond (t 68)
  (.seq (.draw 0 [(If 70 2 1, []), (Il 71 70, []), (⟨(some 72), none, .bin .eql (t 71) (Ki 0)⟩, []), (Im 73 72, []), (Jf 74 73 true 1 1, []), (Jl 75 73 true 74, []), (⟨(some 76), (some (73, true)), .lens (t 75)⟩, []), (⟨(some 77), (some (73, true)), .bin .leq (t 76) (Ki 64)⟩, []), (⟨(some 78), none, .pick (t 73) (t 77) (k (.bool false))⟩, []), (Im 79 78, []), (Jf 80 79 true 1 1, []), (Jl 81 79 true 80, []), (⟨(some 82), (some (79, true)), .pcall (k (.fn 144 [] [])) [(t 81), (Ki 0), (k (.fn 200 [] []))]⟩, []), (Jf 83 79 true 1 1, []), (Jl 84 79 true 83, []), (⟨(some 85), (some (79, true)), .lens (t 84)⟩, []), (⟨(some 86), (some (79, true)), .bin .eql (t 82) (t 85)⟩, []), (⟨(some 87), none, .pick (t 79) (t 86) (k (.bool false))⟩, []), (Im 2 87, [])])
  .ret)
  (.seq (.reg [⟨(some 89), none, .bin .eql (t 4) (Ki 5)⟩, Im 88 89])
  (.cond (t 88)
  (.seq (.draw 0 [(If 90 2 1, []), (Il 91 90, []), (⟨(some 92), none, .bin .eql (t 91) (Ki 0)⟩, []), (Im 93 92, []), (⟨(some 94), (some (93, true)), .pcall (k (.fn 151 [] [])) []⟩, []), (Jf 95 93 true 1 1, []), (Jl 96 93 true 95, []), (⟨(some 97), (some (93, true)), .pcall (k (.fn 47 [] [])) [(t 94), (t 96)]⟩, []), (⟨(some 98), none, .pick (t 93) (t 97) (k (.bool false))⟩, []), (Im 2 98, [])])
  .ret)
  .skip))))))))))))
  (.seq (.reg [⟨(some 2), none, .mv (k (.bool false))⟩])
  .ret)))
theorem fn166 : Fn Go.Proofs.Tryz.prog 166 99 [.inl 2] c166 :=
  ⟨⟨_, _, Go.Proofs.Tryz.func166, rfl, by kernel_rfl, Go.Proofs.Tryz.ntmps166, by kernel_rfl, ⟨fun f => imp.contains f, false, fun _ => false, false⟩, by kernel_rfl⟩⟩
def c171 : C :=
  (.seq (.reg [⟨(some 1), none, .box (t 0)⟩, ⟨(some 2), none, .mv (k (.bool false))⟩])
  (.seq (.seq (.reg [If 3 3 1, Il 4 3, Iz 5 4, ⟨(some 6), none, .bin .gtr (t 5) (Ki 0)⟩, Im 7 6, Jf 8 7 false 0 1, Jl 9 7 false 8, ⟨(some 10), (some (7, false)), .bin .lss (t 9) (Ki 0)⟩, ⟨(some 11), none, .pick (t 7) (k (.bool true)) (t 10)⟩, Im 12 11, Jf 13 12 false 0 1, Jl 14 12 false 13, ⟨(some 15), (some (12, false)), .bin .gtr (t 14) (Ki 4)⟩, ⟨(some 16), none, .pick (t 12) (k (.bool true)) (t 15)⟩])
  (.cond (t 16)
  (.seq (.reg [⟨(some 2), none, .mv (k (.bool false))⟩])
  .ret)
  .skip))
  (.seq (.seq (.reg [If 17 0 1, Il 18 17, ⟨(some 19), none, .bin .eql (t 18) (Ki 3)⟩])
  (.cond (t 19)
  (.seq (.reg [If 20 1 1, Il 21 20, ⟨(some 22), none, .bin .eql (t 21) (Ki 0)⟩, Im 23 22, Jf 24 23 true 2 1, Jl 25 23 true 24, ⟨(some 26), (some (23, true)), .lens (t 25)⟩, ⟨(some 27), (some (23, true)), .bin .leq (t 26) (Ki 64)⟩, ⟨(some 28), none, .pick (t 23) (t 27) (k (.bool false))⟩, Im 2 28])
  .ret)
  .skip))
  (.seq (.seq (.reg [If 29 2 1, Il 30 29, ⟨(some 31), none, .bin .neq (t 30) (k (.str []))⟩, Im 32 31, Jf 33 32 false 0 1, Jl 34 32 false 33, ⟨(some 35), (some (32, false)), .bin .eql (t 34) (Ki 0)⟩, Jm 36 32 false 35, Jf 37 36 true 1 1, Jl 38 36 true 37, ⟨(some 39), (some (36, true)), .bin .neq (t 38) (Ki 0)⟩, ⟨(some 40), (some (32, false)), .pick (t 36) (t 39) (k (.bool false))⟩, ⟨(some 41), none, .pick (t 32) (k (.bool true)) (t 40)⟩, Im 42 41, Jf 43 42 false 0 1, Jl 44 42 false 43, ⟨(some 45), (some (42, false)), .bin .eql (t 44) (Ki 1)⟩, Jm 46 42 false 45, Jf 47 46 true 1 1, Jl 48 46 true 47, ⟨(some 49), (some (46, true)), .bin .neq (t 48) (Ki 0)⟩, ⟨(some 50), (some (42, false)), .pick (t 46) (t 49) (k (.bool false))⟩, Jm 51 42 false 50, Jf 52 51 true 1 1, Jl 53 51 true 52, ⟨(some 54), (some (51, true)), .bin .neq (t 53) (Ki 1)⟩, ⟨(some 55), (some (42, false)), .pick (t 51) (t 54) (k (.bool false))⟩, ⟨(some 56), none, .pick (t 42) (k (.bool true)) (t 55)⟩])
  (.cond (t 56)
  (.seq (.reg [⟨(some 2), none, .mv (k (.bool false))⟩])
  .ret)
  .skip))
  (.seq (.reg [If 57 0 1, Il 58 57, ⟨(some 59), none, .bin .neq (t 58) (Ki 4)⟩, Im 60 59, Jf 61 60 false 1 1, Jl 62 60 false 61, ⟨(some 63), (some (60, false)), .bin .geq (t 62) (Ki 0)⟩, Jm 64 60 false 63, Jf 65 64 true 1 1, Jl 66 64 true 65, ⟨(some 67), (some (64, true)), .bin .leq (t 66) (Ki 1099511627776)⟩, ⟨(some 68), (some (60, false)), .pick (t 64) (t 67) (k (.bool false))⟩, ⟨(some 69), none, .pick (t 60) (k (.bool true)) (t 68)⟩, Im 2 69])
  .ret)))))
theorem fn171 : Fn Go.Proofs.Tryz.prog 171 70 [.inl 2] c171 :=
  ⟨⟨_, _, Go.Proofs.Tryz.func171, rfl, by kernel_rfl, Go.Proofs.Tryz.ntmps171, by kernel_rfl, ⟨fun f => imp.contains f, false, fun _ => false, false⟩, by kernel_rfl⟩⟩
def c242 : C :=
  (.seq (.reg [⟨(some 2), none, .alloc [(.int .i64 0), (.int .i64 0), (.str []), .nils]⟩])
  (.seq (.reg [Im 3 0, ⟨(some 4), none, .build [(.int .i64 0), (.int .i64 0), (.str []), .nils] [(0, 1, (Ki 2)), (1, 1, (t 3))]⟩, Is 4 2 4])
  .ret))
theorem fn242 : Fn Go.Proofs.Tryz.prog 242 5 [.inr (2, true, 4)] c242 :=
  ⟨⟨_, _, Go.Proofs.Tryz.func242, rfl, by kernel_rfl, Go.Proofs.Tryz.ntmps242, by kernel_rfl, ⟨fun f => imp.contains f, false, fun _ => false, false⟩, by kernel_rfl⟩⟩
def c253 : C :=
  (.seq (.reg [Im 10 1, ⟨(some 11), none, .bin .add (t 10) (Ki 1)⟩, Im 8 11])
  (.block 0
  (.loop
  (.seq (.seq (.reg [Im 12 8, Im 13 2, ⟨(some 14), none, .bin .lss (t 12) (t 13)⟩])
  (.cond (t 14)
  .skip
  (.exit 0)))
  (.seq (.block 1
  (.seq (.reg [Im 17 8, Im 9 17])
  (.block 2
  (.loop
  (.seq (.seq (.draw 0 [(Im 18 9, []), (Im 19 1, []), (⟨(some 20), none, .bin .gtr (t 18) (t 19)⟩, []), (Im 21 20, []), (Jm 22 21 true 3, []), (Jm 23 21 true 0, []), (Jm 24 21 true 9, []), (⟨(some 25), (some (21, true)), .iaddr 4 (t 23) (t 24)⟩, []), (⟨(some 26), (some (21, true)), .load true 4 (t 25)⟩, []), (Jm 27 21 true 0, []), (Jm 28 21 true 9, []), (⟨(some 29), (some (21, true)), .bin .sub (t 28) (Ki 1)⟩, []), (⟨(some 30), (some (21, true)), .iaddr 4 (t 27) (t 29)⟩, []), (⟨(some 31), (some (21, true)), .load true 4 (t 30)⟩, []), (⟨(some 32), (some (21, true)), .pcall (t 22) [(t 26), (t 31)]⟩, []), (⟨(some 33), (some (21, true)), .bin .lss (t 32) (Ki 0)⟩, []), (⟨(some 34), none, .pick (t 21) (t 33) (k (.bool false))⟩, [])])
  (.cond (t 34)
  .skip
  (.exit 2)))
  (.seq (.block 3
  (.draw 0 [(Im 37 0, []), (Im 38 9, []), (Im 39 0, []), (Im 40 9, []), (⟨(some 41), none, .bin .sub (t 40) (Ki 1)⟩, []), (Im 42 0, []), (Im 43 9, []), (⟨(some 44), none, .bin .sub (t 43) (Ki 1)⟩, []), (⟨(some 45), none, .iaddr 4 (t 42) (t 44)⟩, []), (Ia 46 4 45, []), (Im 47 0, []), (Im 48 9, []), (⟨(some 49), none, .iaddr 4 (t 47) (t 48)⟩, []), (Ia 50 4 49, []), (⟨(some 51), none, .iaddr 4 (t 37) (t 38)⟩, []), (Is 4 51 46, []), (⟨(some 52), none, .iaddr 4 (t 39) (t 41)⟩, []), (Is 4 52 50, [])]))
  (.reg [Im 35 9, ⟨(some 36), none, .bin .sub (t 35) (Ki 1)⟩, Im 9 36])))))))
  (.reg [Im 15 8, ⟨(some 16), none, .bin .add (t 15) (Ki 1)⟩, Im 8 16]))))))
theorem fn253 : Fn Go.Proofs.Tryz.prog 253 53 [] c253 :=
  ⟨⟨_, _, Go.Proofs.Tryz.func253, rfl, by kernel_rfl, Go.Proofs.Tryz.ntmps253, by kernel_rfl, ⟨fun f => imp.contains f, false, fun _ => false, false⟩, by kernel_rfl⟩⟩
end GP
