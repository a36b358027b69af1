import Derived.Lib.ItoaNum
import Derived.Lib.LaidTab
import Derived.Shelf.SlSortCmp.WholeK
import Derived.Test.YtainhmbnbgonhaaGreatDoorProg
import Derived.Test.YtainhmbnbgonhaaGreatDoorM4
namespace GP
open Go Go.Proofs Go.Sort
section
variable {P : Program}
theorem Inv.grownB {b : Bool} {c : Cx} {w w' : World} {H : Hp} (k : Inv c w H) (hb : Below (b, w.heap.size) w w') : Inv c w' H := by
  have lt : ∀ {a : Addr} {v : Value}, w.cell? a = some v → w'.cell? a = some v := by
    intro a v h
    have hlt : a.block < w.heap.size := by
      rcases Nat.lt_or_ge a.block w.heap.size with h' | h'
      · exact h'
      · simp [World.cell?, Array.getElem?_eq_none h'] at h
    unfold World.cell? at h ⊢
    rw [hb.block _ hlt]; exact h
  refine ⟨fun a v h => lt (k.keep a v h), Nat.le_trans k.low hb.size, ?_, k.free, ?_, k.apart, k.map, k.iter, ?_, k.tokrow, k.toks⟩
  · intro o x cs h1 h2
    obtain ⟨vs, rest, e, fr, h, g⟩ := (k.row o x cs h1 h2).hold
    have hlt : c.β o < w.heap.size := by
      rcases Nat.lt_or_ge (c.β o) w.heap.size with h' | h'
      · exact h'
      · rw [Array.getElem?_eq_none h'] at h; cases h
    exact ⟨vs, rest, e, fr, by rw [hb.block _ hlt]; exact h, g⟩
  · intro o x h1 h2
    obtain ⟨a, b, d, e⟩ := k.own o x h1 h2
    exact ⟨a, b, Nat.lt_of_lt_of_le d hb.size, e⟩
  · intro τ n z h
    obtain ⟨a, b, d, e, f⟩ := k.tok τ n z h
    refine ⟨a, Nat.lt_of_lt_of_le b hb.size, d, e, fun j h1 h2 => ?_⟩
    obtain ⟨g1, g2, g3⟩ := f j h1 h2
    have hbl : w'.heap[(c.κ τ).1.block]? = w.heap[(c.κ τ).1.block]? := hb.block _ b
    refine ⟨?_, ?_, g3⟩
    · rw [← g1]; unfold World.cell?; rw [hbl]
    · rw [← g2]; unfold World.frozen?; rw [hbl]
def CxT (w : World) : Cx := { M := w.cell?, β := fun _ => 0, κ := fun _ => (⟨0, 0, none⟩, 0), bd := fun _ => false, T := [], bb := (true, w.heap.size), sz := fun _ => 0 }
theorem invT (w : World) : Inv (CxT w) w [] :=
  ⟨fun _ _ h => h, Nat.le_refl _, fun o x cs h => by simp at h, fun _ _ => rfl, fun o x h => by simp at h, fun o o' x x' h => by simp at h, fun o es h => by simp at h, fun o m l h => by simp at h, fun τ n z h => by simp [CxT] at h, fun τ n z o x h => by simp [CxT] at h, fun τ n z τ' n' z' h => by simp [CxT] at h⟩
theorem below_grow_eq {w w' : World} (h : Below (true, w.heap.size) w w') : ∃ q os, w' = grow (w.drewN q) os := by
  refine ⟨w'.drawn - w.drawn, w'.heap.extract w.heap.size w'.heap.size, ?_⟩
  obtain ⟨h1, h2, h3, h4, h5, h6⟩ := h
  have h6 := h6 rfl
  obtain ⟨heap, tape, drawn, os, output⟩ := w
  obtain ⟨heap', tape', drawn', os', output'⟩ := w'
  simp only at h1 h2 h3 h4 h5 h6
  subst h1; subst h2; subst h3
  simp only [grow, World.drewN, World.mk.injEq, and_true, true_and]
  refine ⟨?_, by omega⟩
  apply Array.ext_getElem?
  intro i
  by_cases hi : i < heap.size
  · rw [Array.getElem?_append_left hi]; exact h5 i hi
  · rw [Array.getElem?_append_right (by omega), Array.getElem?_extract]
    by_cases hi2 : i < heap'.size
    · rw [if_pos (by omega)]; congr 1; omega
    · rw [Array.getElem?_eq_none (by omega), if_neg (by omega)]
theorem cell_lt {w : World} {a : Addr} {v : Value} (h : w.cell? a = some v) : a.block < w.heap.size := by
  rcases Nat.lt_or_ge a.block w.heap.size with h' | h'
  · exact h'
  · simp [World.cell?, Array.getElem?_eq_none h'] at h
theorem putCells_set (vs : List Value) : ∀ (w : World) (b off : Nat), putCells w b off vs = w.setCells b off vs := by
  induction vs with
  | nil => intros; rfl
  | cons v vs ih => intro w b off; rw [putCells, ih]; rfl
theorem flatK_list {α : Type} [Inhabited α] (enc : α → List Value) (k : Nat) (hk : ∀ x, (enc x).length = k) (d : Array α) : (flatK enc k d).toList = (d.toList.map enc).flatten := by
  have hl : (d.toList.map enc).flatten.length = d.size * k := by
    rw [flat_len (sz := k) _ (by intro x hx; obtain ⟨y, _, rfl⟩ := List.mem_map.1 hx; exact hk y)]; simp
  apply List.ext_getElem?
  intro t
  by_cases ht : t < d.size * k
  · have k0 : 0 < k := by rcases Nat.eq_zero_or_pos k with h | h; · subst h; simp at ht
                          · exact h
    have hq : t / k < d.size := Nat.div_lt_of_lt_mul (by rw [Nat.mul_comm]; exact ht)
    have hr : t % k < k := Nat.mod_lt _ k0
    have e := get_flatK enc k d t ht
    have e1 : (flatK enc k d).toList[t]? = some (flatK enc k d)[t]! := by
      rw [getElem!_pos (flatK enc k d) t (by simpa using ht)]
      simp [ht]
    have e2 : (d.toList.map enc).flatten[t / k * k + t % k]? = ((d.toList.map enc)[t / k]'(by simpa using hq))[t % k]? :=
      flat_at _ (t / k) (by simpa using hq) (t % k) (by intro x hx; obtain ⟨y, _, rfl⟩ := List.mem_map.1 hx; exact hk y) hr
    rw [Nat.div_add_mod'] at e2
    rw [e1, e, e2, List.getElem_map]
    have hx : d[t / k]! = d.toList[t / k]'(by simpa using hq) := by rw [getElem!_pos d (t / k) hq]; simp
    rw [hx]
    rw [List.getElem?_eq_getElem (by rw [hk]; exact hr), getElem!_pos _ _ (by rw [hk]; exact hr)]
  · rw [List.getElem?_eq_none (by simp; omega), List.getElem?_eq_none (by omega)]
theorem chunk_agg {sz : Nat} : ∀ (n : Nat) (cs : List D), ∀ x ∈ chunk true sz n cs, ∃ l, x = .agg l
  | 0, _, x, h => by simp [chunk] at h
  | n + 1, cs, x, h => by
    simp only [chunk, if_true, List.mem_cons] at h
    rcases h with rfl | h
    · exact ⟨_, rfl⟩
    · exact chunk_agg n _ x h
theorem put_grown {c : Cx} {w : World} {H : Hp} (k : Inv c w H) {o : Nat} {cs ds : List D} {us : List Value} (ho : H[o]? = some (.row cs)) (kc : Cells c ds us) {off : Nat} (h1 : off + ds.length ≤ cs.length) (m : Nat) (os : Array Obj) :
    Inv c (grow ((Sort.ahead w m).setCells (c.β o) off us) os) (H.set o (.row (cs.take off ++ ds ++ cs.drop (off + ds.length)))) ∧ Below c.bb w (grow ((Sort.ahead w m).setCells (c.β o) off us) os) := by
  have k1 : Inv c (Sort.ahead w m) H := Inv.congr (w := w) (w' := Sort.ahead w m) rfl k
  have hf := row_fits k ho rfl
  obtain ⟨_, g2, g3⟩ := put_inv (P := default) k1 ho rfl kc (off := off) (by omega) (by omega)
  rw [putCells_set] at g2 g3
  have hg : ∀ (b : Bool) (x : World), Below (b, x.heap.size) x (grow x os) := fun b x => ⟨rfl, rfl, rfl, by simp, fun i hi => by simp [grow, Array.getElem?_append_left hi], fun _ => Nat.le_refl _⟩
  refine ⟨g2.grownB (hg false _), ?_⟩
  have h0 : Below c.bb w (Sort.ahead w m) := ⟨rfl, rfl, rfl, Nat.le_refl _, fun _ _ => rfl, fun _ => Nat.le_add_right _ _⟩
  exact (h0.trans g3).trans (Below.mono (b := c.bb.1) (hg _ _) g2.low)
variable [inst : HasG P]
theorem sort_snd {ρ : Go.Shelf.Ren} (L : SlLaysF0.n6 P ρ) (k : Nat) (aE : ∀ w, (isAgg (ρ.t 24)).run P w = .ok true w) (zE : ∀ w, (Go.sizeOf (ρ.t 24)).run P w = .ok k w) {f g : FuncId} (hf : ρ.f 6 = f)
    (ef : ∀ args w, (callFunc f args).run P w = .ok (.enter f args) w) (eg : ∀ args w, (callFunc g args).run P w = .ok (.enter g args) w)
    (instB : HasG P) (hB : ∀ c w, @HasG.G P instB c w) {H : Hp} {o off n cap : Nat} {cs : List D} (ho : H[o]? = some (.row cs)) (hn : 0 < n) (hn2 : n < 2 ^ 62) (hlen : off + n * k ≤ cs.length)
    (cf : D → D → Int) (hcl : ∀ x ∈ chunk true k n (cs.drop off), x.cl 0 0 = true)
    (hcmp : ∀ x ∈ chunk true k n (cs.drop off), ∀ y ∈ chunk true k n (cs.drop off), @Snd P instB g [x, y] [] [] (fun r _ _ => r = .int .i64 (cf x y)))
    (hirr : ∀ x ∈ chunk true k n (cs.drop off), ¬ cf x x < 0)
    (htr : ∀ x ∈ chunk true k n (cs.drop off), ∀ y ∈ chunk true k n (cs.drop off), ∀ z ∈ chunk true k n (cs.drop off), cf x y < 0 → cf y z < 0 → cf x z < 0)
    (hnt : ∀ x ∈ chunk true k n (cs.drop off), ∀ y ∈ chunk true k n (cs.drop off), ∀ z ∈ chunk true k n (cs.drop off), ¬ cf x y < 0 → ¬ cf y z < 0 → ¬ cf x z < 0)
    {T : Tk} {Q : Post} (hQ : ∀ ys : List D, ys.Perm (chunk true k n (cs.drop off)) → ys.Pairwise (fun a b => ¬ cf b a < 0) → Q (.tup []) (H.set o (.row (cs.take off ++ flatD ys ++ cs.drop (off + n * k)))) T) :
    @Snd P inst f [.ms true k o off n cap, .fn g [] []] H T Q := by
  intro c w args hg k1 kT kr
  match args, kr.len with
  | [va, vf], _ =>
    have ra := kr.rep 0 (by simp) (by simp)
    have rf := kr.rep 1 (by simp) (by simp)
    simp only [List.getElem_cons_zero, List.getElem_cons_succ] at ra rf
    cases ra with
    | ms _ _ _ _ _ _ rc hb g1 g2 g3 =>
    cases rf with
    | fn _ _ _ vp vq hp hq _ _ =>
    match vp, vq, hp, hq with
    | [], [], _, _ =>
    refine .inl ⟨ef _ _, ?_⟩
    generalize hxs : chunk true k n (cs.drop off) = xs at *
    have hxl : xs.length = n := by rw [← hxs]; exact chunk_len ..
    obtain ⟨vs, rest, e, fr, q1, q2, q4, q3⟩ := (k1.row o _ cs ho rfl).hold
    have hvl : vs.length = cs.length := q2.len
    have hown := k1.own o _ ho rfl
    have hblk : c.β o < w.heap.size := hown.2.2.1
    have hcd : Cells c (cs.drop off) (vs.drop off) := ⟨by simp [q2.len], fun d hd => q2.one d (List.mem_of_mem_drop hd), fun i h h' => by simpa using q2.rep (off + i) (by simp at h; omega) (by simp at h'; omega)⟩
    have ke := chunk_elems (ag := true) (sz := k) (.inl rfl) n _ _ hcd (by simp; omega)
    rw [hxs] at ke
    obtain ⟨vss, hvss⟩ : ∃ v, chunkV k n (vs.drop off) = v := ⟨_, rfl⟩
    rw [hvss] at ke
    have hvssl : vss.length = n := by rw [← hvss]; exact chunkV_len ..
    have hflat : vss.flatten = (vs.drop off).take (n * k) := by rw [← hvss]; exact chunkV_flat ..
    have hvl1 : ∀ v ∈ vss, v.length = k := ke.sz'
    haveI : Inhabited (Fin n) := ⟨⟨0, hn⟩⟩
    let enc : Fin n → List Value := fun i => vss[i.1]'(by rw [hvssl]; exact i.2)
    let el : Fin n → D := fun i => xs[i.1]'(by rw [hxl]; exact i.2)
    have hel : ∀ i, el i ∈ xs := fun i => List.getElem_mem _
    let d : Array (Fin n) := Array.ofFn id
    have hd : d.size = n := by simp [d]
    have hk : ∀ x, (enc x).length = k := fun x => hvl1 _ (List.getElem_mem _)
    have hcells : ∀ i : Fin n, Cells c (el i).cells (enc i) := fun i => ke.el i.1 (by rw [hxl]; exact i.2) (by rw [hvssl]; exact i.2)
    have hone : ∀ x, ∀ v ∈ enc x, v.oneCell' = true := fun x => (hcells x).cell
    have hdE : d.toList.map enc = vss := by
      apply List.ext_getElem
      · simp [d, hvssl]
      · intro i h1 h2
        simp only [d, Array.toList_ofFn, List.getElem_map, List.getElem_ofFn, id, enc]
    have hdX : d.toList.map el = xs := by
      apply List.ext_getElem
      · simp [d, hxl]
      · intro i h1 h2
        simp only [d, Array.toList_ofFn, List.getElem_map, List.getElem_ofFn, id, el]
    have hH : HoldsK enc k w (c.β o) off d := by
      intro t ht
      have ht' : t < n * k := by simpa [hd] using ht
      have hlist := flatK_list enc k hk d
      rw [hdE, hflat] at hlist
      have hg : (flatK enc k d)[t]! = vs[off + t]'(by omega) := by
        have : (flatK enc k d).toList[t]? = some (vs[off + t]'(by omega)) := by
          rw [hlist, List.getElem?_take_of_lt ht', List.getElem?_drop, List.getElem?_eq_getElem]
        rw [getElem!_pos (flatK enc k d) t (by simpa using ht)]
        have h2 : (flatK enc k d).toList[t]? = some ((flatK enc k d)[t]'(by simpa using ht)) := by simp [hd, ht']
        rw [h2] at this; injection this
      rw [hg]
      constructor
      · simp only [World.cell?, q1]
        simp only [Option.isSome_none, Bool.false_eq_true, if_false, List.getElem?_toArray, id]
        rw [List.getElem?_append_left (by omega), List.getElem?_eq_getElem]
      · simp only [World.frozen?, q1]
        have := q3 (off + t) (by omega)
        simpa using this
    have hO : SWO (ltOf fun i j => cf (el i) (el j)) := by
      refine ⟨fun x => ?_, fun x y z h1 h2 => ?_, fun x y z h1 h2 => ?_⟩
      · simp only [ltOf, decide_eq_false_iff_not]; exact hirr _ (hel x)
      · simp only [ltOf, decide_eq_true_eq] at *; exact htr _ (hel x) _ (hel y) _ (hel z) h1 h2
      · simp only [ltOf, decide_eq_false_iff_not] at *; exact hnt _ (hel x) _ (hel y) _ (hel z) h1 h2
    have hL : CmpLays P g #[] enc k (fun i j => cf (el i) (el j)) (c.β o) off d.size w := by
      intro m os dk hdk x y
      generalize hW : sortWorldK enc k w (c.β o) off m dk os = W
      have hM : ∀ a v, c.M a = some v → W.cell? a = some v := by
        intro a v ha
        have h0 := k1.keep a v ha
        have hlt := cell_lt h0
        have hne : a.block ≠ c.β o := by
          intro e
          obtain ⟨b, i, s⟩ := a
          simp only at e; subst e
          cases s with
          | none => rw [hown.2.2.2 i] at ha; cases ha
          | some s => simp [World.cell?, q1] at h0
        rw [← hW]
        unfold sortWorldK
        rw [cell?_grow _ _ _ (by rw [size_putRowK]; exact hlt), cell?_putRowK_other _ _ _ _ _ _ _ hne]
        exact h0
      have rep : ∀ i : Fin n, Rep (CxT W) (el i) (.agg (enc i).toArray) := by
        intro i
        obtain ⟨l, hl⟩ : ∃ l, el i = .agg l := chunk_agg n (cs.drop off) _ (by rw [hxs]; exact hel i)
        have hc := hcells i
        rw [hl] at hc ⊢
        have r0 : Rep c (.agg l) (.agg (enc i).toArray) := .agg l (enc i) hc.len hc.one hc.rep
        have hcl' := hcl _ (hel i)
        rw [hl] at hcl'
        exact r0.move (n := 0) (m := 0) (c' := CxT W) hM (fun o h => by omega) (fun o h => by omega) (fun o h => by omega) (Nat.zero_le _) (fun τ h => by omega) hcl'
      have rr : Reps (CxT W) [el x, el y] [.agg (enc x).toArray, .agg (enc y).toArray] := by
        refine ⟨rfl, fun i h h' => ?_⟩
        match i, h with
        | 0, _ => exact rep x
        | 1, _ => exact rep y
      rcases hcmp _ (hel x) _ (hel y) (CxT W) W _ (hB _ _) (invT W) rfl rr with ⟨_, hc⟩ | ⟨v, w', hc, _⟩
      · refine hc.mono ?_
        rintro e w' ⟨v, rfl, r, H', T', c', hr, hrep, _, _, _, hbel⟩
        subst hr
        cases hrep
        exact ⟨rfl, below_grow_eq hbel⟩
      · rw [eg] at hc; cases hc
    have hS := AnyQ.slices_SortFunc L k aE zE enc hk hone (fun i j => cf (el i) (el j)) hO g #[] (c.β o) off rc d w eg hL hH hblk (by rw [hd]; omega)
    rw [hf, hd] at hS
    refine hS.mono ?_
    rintro e w' ⟨rfl, d', m, os, ⟨hs1, _, hs2⟩, hs3, rfl⟩
    have hd's : d'.size = n := by rw [hs1, hd]
    have hperm : (d'.toList).Perm d.toList := by
      have e1 : d'.extract 0 n = d' := Array.ext (by simp [hd's]) (fun i h1 h2 => by simp)
      have e2 : d.extract 0 n = d := Array.ext (by simp [hd]) (fun i h1 h2 => by simp)
      rw [e1, e2] at hs2; exact hs2
    let ys : List D := d'.toList.map el
    have hys : ys.Perm xs := by rw [← hdX]; exact hperm.map el
    have hyl : ys.length = n := by rw [hys.length_eq, hxl]
    have hflatD : flatD ys = (d'.toList.map (fun i => (el i).cells)).flatten := by simp [flatD, ys, Function.comp_def]
    have hkc : Cells c (flatD ys) (flatK enc k d').toList := by
      rw [flatK_list enc k hk]
      have : Elems c k ys (d'.toList.map enc) := by
        refine ⟨by simp [ys], fun i h h' => ?_, fun x hx => ?_⟩
        · simp only [ys, List.getElem_map]; exact hcells _
        · obtain ⟨i, _, rfl⟩ := List.mem_map.1 hx
          rw [← (hcells i).len]; exact hk i
      exact this.cells
    have hfl : (flatD ys).length = n * k := by
      have := hkc.len
      simp [hd's] at this; exact this.symm
    have hw : sortWorldK enc k w (c.β o) off m d' os = grow ((Sort.ahead w m).setCells (c.β o) off (flatK enc k d').toList) os := by
      unfold sortWorldK
      congr 1
      have hH' : HoldsK enc k (Sort.ahead w m) (c.β o) off d := holdsK_ahead enc k w m (c.β o) off d hH
      have e0 : Sort.putRow id (Sort.ahead w m) (c.β o) off (flatK enc k d) = Sort.ahead w m := putRow_self id _ _ _ _ hH'
      have e1 := setCells_putRow (Sort.ahead w m) (c.β o) off (flatK enc k d').toList 0 (flatK enc k d) (by simp [hd's, hd])
      rw [e0, Nat.add_zero] at e1
      rw [e1]
      unfold putRowK
      congr 1
      apply ext_get!
      · simp [hd's, hd]
      · intro t ht
        rw [get_setMany _ _ _ _ (by simpa [hd, hd's] using ht), if_pos (by simpa using ht)]
        simp only [Nat.sub_zero]
        rw [getElem!_pos (flatK enc k d').toList t (by simpa using ht), getElem!_pos (flatK enc k d') t (by simpa using ht)]
        simp
    rw [hw]
    obtain ⟨z1, z2⟩ := put_grown k1 ho hkc (off := off) (by rw [hfl]; exact hlen) m os
    rw [hfl] at z1
    refine ⟨_, rfl, .tup [], _, T, c, hQ ys hys ?_, .tup [] [] rfl (fun i h => absurd h (by simp)), z1, Cx.le.refl c, kT, z2⟩
    rw [List.pairwise_iff_getElem]
    intro i j hi hj hij
    have hi' : i < n := by rw [← hyl]; exact hi
    have hj' : j < n := by rw [← hyl]; exact hj
    have := hs3 i j (Nat.zero_le _) hij hj'
    simp only [ltOf, decide_eq_false_iff_not] at this
    simp only [ys, List.getElem_map]
    rw [getElem!_pos d' j (by omega), getElem!_pos d' i (by omega)] at this
    simpa using this
end
end GP
namespace GP
open Go Go.Proofs
open Rd O
set_option maxRecDepth 100000
def c7 : C :=
  (.seq (.reg [⟨(some 2), none, .box (t 0)⟩, ⟨(some 4), none, .mv (k (.bool false))⟩])
  (.seq (.seq (.reg [Ip 9 18 [], ⟨(some 10), none, .un .not (t 9)⟩, Im 11 10, ⟨(some 12), (some (11, false)), .load true 3 (t 2)⟩, ⟨(some 13), (some (11, false)), .pcall (k (.fn 28 [] [])) [(t 12)]⟩, ⟨(some 14), (some (11, false)), .un .not (t 13)⟩, ⟨(some 15), none, .pick (t 11) (k (.bool true)) (t 14)⟩, Im 16 15, ⟨(some 17), (some (16, false)), .load true 3 (t 2)⟩, ⟨(some 18), (some (16, false)), .pcall (k (.fn 29 [] [])) [(t 17)]⟩, ⟨(some 19), (some (16, false)), .un .not (t 18)⟩, ⟨(some 20), none, .pick (t 16) (k (.bool true)) (t 19)⟩])
  (.cond (t 20)
  (.seq (.reg [Ip 21 18 [], Im 4 21])
  .ret)
  .skip))
  (.seq (.reg [Ia 22 3 2, Im 23 1, Ip 24 30 [(t 22), (t 23)], Im 5 24])
  (.seq (.reg [Im 26 5, Ip 27 31 [(t 26)], Im 25 27, Ie 28 0 25, Ie 29 1 25, Ie 30 2 25, ⟨(some 6), none, .alloc [.nils, (.str []), .nils]⟩, Is 3 6 28, Im 7 29, Im 8 30])
  (.seq (.seq (.reg [Im 31 5, Iz 32 31, ⟨(some 33), none, .bin .gtr (t 32) (Ki 600)⟩])
  (.cond (t 33)
  (.seq (.reg [Im 34 8, ⟨(some 35), none, .bin .eql (t 34) (Ki 13)⟩, Im 36 35, Jm 37 36 true 7, ⟨(some 38), (some (36, true)), .bin .eql (t 37) (Ki 0)⟩, ⟨(some 39), none, .pick (t 36) (t 38) (k (.bool false))⟩, Im 4 39])
  .ret)
  .skip))
  (.seq (.reg [Im 40 8, ⟨(some 41), none, .bin .eql (t 40) (Ki 0)⟩, Im 42 41, Jm 43 42 true 7, ⟨(some 44), (some (42, true)), .bin .eql (t 43) (Ki 0)⟩, ⟨(some 45), none, .pick (t 42) (t 44) (k (.bool false))⟩, Im 46 45, ⟨(some 47), (some (46, true)), .load true 3 (t 6)⟩, ⟨(some 48), (some (46, true)), .load true 3 (t 2)⟩, ⟨(some 49), (some (46, true)), .pcall (k (.fn 32 [] [])) [(t 47), (t 48)]⟩, ⟨(some 50), none, .pick (t 46) (t 49) (k (.bool false))⟩, Im 4 50])
  .ret))))))
def c49 : C :=
  (.seq (.reg [⟨(some 2), none, .alloc [(.str []), (.int .i64 0), (.int .i64 0), (.str []), .nils, (.str []), (.str []), .nils]⟩])
  (.seq (.reg [Im 3 0, Im 4 0, ⟨(some 5), none, .mkfn 104 [(t 4)] []⟩, ⟨(some 6), none, .bsl 1 [(k (.str [111, 114]))]⟩, Ic 7 103 [(t 3), (t 5), (t 6)], Is 8 2 7])
  .ret))
theorem fn49 : Fn Go.Proofs.Tryz.prog 49 8 [.inr (2, true, 8)] c49 :=
  ⟨⟨_, _, Go.Proofs.Tryz.func49, rfl, by kernel_rfl, Go.Proofs.Tryz.ntmps49, by kernel_rfl, ⟨fun f => imp.contains f, false, fun _ => false, false⟩, by kernel_rfl⟩⟩
def c50 : C :=
  (.seq (.reg [⟨(some 2), none, .mv (Ki 0)⟩, ⟨(some 3), none, .mv (Ki 0)⟩])
  (.seq (.seq (.draw 0 [(Im 4 0, []), (In 5 4, []), (If 6 2 5, []), (Il 7 6, []), (⟨(some 8), none, .bin .eql (t 7) (Ki 0)⟩, []), (Im 9 8, []), (Jm 10 9 true 0, []), (⟨(some 11), (some (9, true)), .nilc (t 10)⟩, []), (Jf 12 9 true 1 11, []), (Jl 13 9 true 12, []), (Jm 14 9 true 0, []), (⟨(some 15), (some (9, true)), .nilc (t 14)⟩, []), (Jf 16 9 true 0 15, []), (Jl 17 9 true 16, []), (⟨(some 18), (some (9, true)), .len (t 17)⟩, []), (⟨(some 19), (some (9, true)), .bin .lss (t 13) (t 18)⟩, []), (⟨(some 20), none, .pick (t 9) (t 19) (k (.bool false))⟩, [])])
  (.cond (t 20)
  (.reg [Im 21 0, Im 22 0, In 23 22, If 24 1 23, Il 25 24, Ic 26 105 [(t 21), (t 25), (Ki 2)]])
  .skip))
  (.seq (.seq (.reg [Im 27 0, In 28 27, If 29 2 28, Il 30 29, ⟨(some 31), none, .bin .eql (t 30) (Ki 0)⟩])
  (.cond (t 31)
  (.seq (.reg [⟨(some 2), none, .mv (Ki 0)⟩, ⟨(some 3), none, .mv (Ki 0)⟩])
  .ret)
  .skip))
  (.seq (.draw 0 [(Im 32 0, []), (In 33 32, []), (If 34 1 33, []), (Il 35 34, []), (Im 36 0, []), (In 37 36, []), (If 38 2 37, []), (Il 39 38, []), (Im 2 35, []), (Im 3 39, [])])
  .ret))))
theorem fn50 : Fn Go.Proofs.Tryz.prog 50 40 [.inl 2, .inl 3] c50 :=
  ⟨⟨_, _, Go.Proofs.Tryz.func50, rfl, by kernel_rfl, Go.Proofs.Tryz.ntmps50, by kernel_rfl, ⟨fun f => imp.contains f, false, fun _ => false, false⟩, by kernel_rfl⟩⟩
def c117 : C :=
  (.seq (.reg [⟨(some 4), none, .mv (k (.bool false))⟩])
  (.seq (.reg [Im 6 0, Ip 7 177 [(t 6)], ⟨(some 5), none, .alloc [(.int .i64 0), (.str []), (.int .i64 0)]⟩, Is 3 5 7])
  (.seq (.reg [If 8 0 5, Il 9 8, ⟨(some 10), none, .bin .eql (t 9) (Ki 1)⟩, Im 11 10, Jf 12 11 false 0 5, Jl 13 11 false 12, ⟨(some 14), (some (11, false)), .bin .eql (t 13) (Ki 5)⟩, ⟨(some 15), none, .pick (t 11) (k (.bool true)) (t 14)⟩, Im 16 15, Jf 17 16 true 1 5, Jl 18 16 true 17, Jm 19 16 true 1, ⟨(some 20), (some (16, true)), .bin .eql (t 18) (t 19)⟩, ⟨(some 21), none, .pick (t 16) (t 20) (k (.bool false))⟩, Im 4 21])
  .ret)))
theorem fn117 : Fn Go.Proofs.Tryz.prog 117 22 [.inl 4] c117 :=
  ⟨⟨_, _, Go.Proofs.Tryz.func117, rfl, by kernel_rfl, Go.Proofs.Tryz.ntmps117, by kernel_rfl, ⟨fun f => imp.contains f, false, fun _ => false, false⟩, by kernel_rfl⟩⟩
def c120 : C :=
  (.seq (.reg [⟨(some 4), none, .alloc [(.int .i64 0), (.str []), (.int .i64 0)]⟩])
  (.seq (.reg [Im 6 0, Ip 7 177 [(t 6)], ⟨(some 5), none, .alloc [(.int .i64 0), (.str []), (.int .i64 0)]⟩, Is 3 5 7])
  (.seq (.seq (.reg [If 8 0 5, Il 9 8, Im 10 1, ⟨(some 11), none, .bin .neq (t 9) (t 10)⟩])
  (.cond (t 11)
  (.seq (.reg [Im 12 0, Im 13 0, In 14 13, If 15 1 14, Il 16 15, Ic 17 105 [(t 12), (t 16), (Ki 2)]])
  (.seq (.reg [⟨(some 18), none, .build [(.int .i64 0), (.str []), (.int .i64 0)] []⟩, Is 3 4 18])
  .ret))
  .skip))
  (.seq (.reg [Im 19 0, In 20 19, If 21 1 20, Il 22 21, ⟨(some 23), none, .bin .add (t 22) (Ki 1)⟩, In 24 19, If 25 1 24, Is 1 25 23])
  (.seq (.reg [Ia 26 3 5, Is 3 4 26])
  .ret)))))
theorem fn120 : Fn Go.Proofs.Tryz.prog 120 27 [.inr (4, true, 3)] c120 :=
  ⟨⟨_, _, Go.Proofs.Tryz.func120, rfl, by kernel_rfl, Go.Proofs.Tryz.ntmps120, by kernel_rfl, ⟨fun f => imp.contains f, false, fun _ => false, false⟩, by kernel_rfl⟩⟩
def c175 : C :=
  (.seq (.reg [⟨(some 2), none, .mv (k (.bool false))⟩])
  (.seq (.reg [Im 3 0, Im 4 0, ⟨(some 5), none, .bin .neq (t 3) (t 4)⟩, Im 2 5])
  .ret))
theorem fn175 : Fn Go.Proofs.Tryz.prog 175 6 [.inl 2] c175 :=
  ⟨⟨_, _, Go.Proofs.Tryz.func175, rfl, by kernel_rfl, Go.Proofs.Tryz.ntmps175, by kernel_rfl, ⟨fun f => imp.contains f, false, fun _ => false, false⟩, by kernel_rfl⟩⟩
def c179 : C :=
  (.seq (.reg [⟨(some 1), none, .box (t 0)⟩, ⟨(some 2), none, .mv (k (.bool false))⟩])
  (.seq (.seq (.reg [If 3 3 1, Il 4 3, Iz 5 4, ⟨(some 6), none, .bin .gtr (t 5) (Ki 0)⟩, Im 7 6, Jf 8 7 false 0 1, Jl 9 7 false 8, ⟨(some 10), (some (7, false)), .bin .neq (t 9) (Ki 3)⟩, Jm 11 7 false 10, Jf 12 11 true 2 1, Jl 13 11 true 12, ⟨(some 14), (some (11, true)), .bin .neq (t 13) (k (.str []))⟩, ⟨(some 15), (some (7, false)), .pick (t 11) (t 14) (k (.bool false))⟩, ⟨(some 16), none, .pick (t 7) (k (.bool true)) (t 15)⟩])
  (.cond (t 16)
  (.seq (.reg [⟨(some 2), none, .mv (k (.bool false))⟩])
  .ret)
  .skip))
  (.seq (.seq (.reg [If 17 0 1, Il 18 17])
  (.block 0
  (.seq (.reg [⟨(some 20), none, .bin .eql (t 18) (Ki 0)⟩, Im 19 20])
  (.cond (t 19)
  (.seq (.reg [If 21 1 1, Il 22 21, ⟨(some 23), none, .bin .eql (t 22) (Ki 0)⟩, Im 2 23])
  .ret)
  (.seq (.reg [⟨(some 25), none, .bin .eql (t 18) (Ki 1)⟩, Im 24 25])
  (.cond (t 24)
  (.seq (.reg [If 26 1 1, Il 27 26, ⟨(some 28), none, .bin .eql (t 27) (Ki 0)⟩, Im 29 28, Jf 30 29 false 1 1, Jl 31 29 false 30, ⟨(some 32), (some (29, false)), .bin .eql (t 31) (Ki 1)⟩, ⟨(some 33), none, .pick (t 29) (k (.bool true)) (t 32)⟩, Im 2 33])
  .ret)
  (.seq (.reg [⟨(some 35), none, .bin .eql (t 18) (Ki 2)⟩, Im 34 35])
  (.cond (t 34)
  (.seq (.reg [⟨(some 2), none, .mv (k (.bool true))⟩])
  .ret)
  (.seq (.reg [⟨(some 37), none, .bin .eql (t 18) (Ki 3)⟩, Im 36 37])
  (.cond (t 36)
  (.seq (.reg [If 38 1 1, Il 39 38, ⟨(some 40), none, .bin .eql (t 39) (Ki 0)⟩, Im 41 40, Jf 42 41 true 2 1, Jl 43 41 true 42, ⟨(some 44), (some (41, true)), .lens (t 43)⟩, ⟨(some 45), (some (41, true)), .bin .leq (t 44) (Ki 64)⟩, ⟨(some 46), none, .pick (t 41) (t 45) (k (.bool false))⟩, Im 2 46])
  .ret)
  (.seq (.reg [⟨(some 48), none, .bin .eql (t 18) (Ki 4)⟩, Im 47 48])
  (.cond (t 47)
  (.seq (.reg [If 49 1 1, Il 50 49, ⟨(some 51), none, .bin .geq (t 50) (Ki 0)⟩, Im 52 51, Jf 53 52 true 1 1, Jl 54 52 true 53, ⟨(some 55), (some (52, true)), .bin .leq (t 54) (Ki 1099511627776)⟩, ⟨(some 56), none, .pick (t 52) (t 55) (k (.bool false))⟩, Im 2 56])
  .ret)
  .skip))))))))))))
  (.seq (.reg [⟨(some 2), none, .mv (k (.bool false))⟩])
  .ret))))
theorem fn179 : Fn Go.Proofs.Tryz.prog 179 57 [.inl 2] c179 :=
  ⟨⟨_, _, Go.Proofs.Tryz.func179, rfl, by kernel_rfl, Go.Proofs.Tryz.ntmps179, by kernel_rfl, ⟨fun f => imp.contains f, false, fun _ => false, false⟩, by kernel_rfl⟩⟩
end GP
namespace GP
open Go Go.Proofs
open Rd O
set_option maxRecDepth 100000
def c18 : C :=
  (.seq (.reg [⟨(some 0), none, .mv (k (.bool false))⟩])
  (.seq (.reg [Ip 8 40 [(k (.str [49, 32, 43, 32, 50, 32, 42, 32, 51]))], Im 7 8, Ie 9 0 7, Ie 10 1 7, Ie 11 2 7, Im 1 9, Im 2 10, Im 3 11])
  (.seq (.reg [Im 13 1, Ip 14 19 [(t 13)], Im 12 14, Ie 15 0 12, Ie 16 1 12, Ie 17 2 12, ⟨(some 4), none, .alloc [(.str []), (.int .i64 0), (.int .i64 0), (.str []), .nils, (.str []), (.str []), .nils]⟩, Is 8 4 15, Im 5 16, Im 6 17])
  (.seq (.reg [Im 18 6, ⟨(some 19), none, .bin .eql (t 18) (Ki 0)⟩, Im 20 19, Jf 21 20 true 0 4, Jl 22 20 true 21, ⟨(some 23), (some (20, true)), .bin .eql (t 22) (k (.str [43]))⟩, ⟨(some 24), none, .pick (t 20) (t 23) (k (.bool false))⟩, Im 25 24, Jf 26 25 true 7 4, Jl 27 25 true 26, ⟨(some 28), (some (25, true)), .len (t 27)⟩, ⟨(some 29), (some (25, true)), .bin .eql (t 28) (Ki 2)⟩, ⟨(some 30), none, .pick (t 25) (t 29) (k (.bool false))⟩, Im 31 30, Jf 32 31 true 7 4, Jl 33 31 true 32, ⟨(some 34), (some (31, true)), .iaddr 8 (t 33) (Ki 1)⟩, Jf 35 31 true 0 34, Jl 36 31 true 35, ⟨(some 37), (some (31, true)), .bin .eql (t 36) (k (.str [42]))⟩, ⟨(some 38), none, .pick (t 31) (t 37) (k (.bool false))⟩, Im 0 38])
  .ret))))
theorem fn18 : Fn Go.Proofs.Tryz.prog 18 39 [.inl 0] c18 :=
  ⟨⟨_, _, Go.Proofs.Tryz.func18, rfl, by kernel_rfl, Go.Proofs.Tryz.ntmps18, by kernel_rfl, ⟨fun f => imp.contains f, false, fun _ => false, false⟩, by kernel_rfl⟩⟩
def c92 : C :=
  (.seq (.reg [⟨(some 4), none, .alloc [(.int .i64 0), (.str []), (.int .i64 0)]⟩, ⟨(some 5), none, .mv (Ki 0)⟩])
  (.seq (.reg [Im 16 0, Im 17 1, ⟨(some 18), none, .idxs (t 16) (t 17)⟩, Im 6 18])
  (.seq (.block 0
  (.seq (.reg [Im 20 6, ⟨(some 21), none, .bin .geq (t 20) (k (.int .u8 97))⟩, Im 22 21, Jm 23 22 true 6, ⟨(some 24), (some (22, true)), .bin .leq (t 23) (k (.int .u8 122))⟩, ⟨(some 25), none, .pick (t 22) (t 24) (k (.bool false))⟩, Im 19 25])
  (.cond (t 19)
  (.seq (.reg [Im 26 0, Im 27 1, Ip 28 144 [(t 26), (t 27), (k (.fn 146 [] []))], Im 7 28])
  (.seq (.seq (.reg [Im 29 7, ⟨(some 30), none, .bin .gtr (t 29) (Ki 64)⟩])
  (.cond (t 30)
  (.seq (.reg [⟨(some 31), none, .build [(.int .i64 0), (.str []), (.int .i64 0)] []⟩, Is 3 4 31, ⟨(some 5), none, .mv (Ki 0)⟩])
  .ret)
  .skip))
  (.seq (.reg [Im 32 0, Im 33 1, Im 34 1, Im 35 7, ⟨(some 36), none, .bin .add (t 34) (t 35)⟩, ⟨(some 37), none, .subs (t 32) (some (t 33)) (some (t 36))⟩, ⟨(some 38), none, .build [(.int .i64 0), (.str []), (.int .i64 0)] [(0, 1, (Ki 1)), (1, 1, (t 37))]⟩, Im 39 7, Is 3 4 38, Im 5 39])
  .ret)))
  (.seq (.reg [Im 41 6, Ip 42 148 [(t 41)], Im 40 42])
  (.cond (t 40)
  (.seq (.reg [Im 44 0, Im 45 1, Ip 46 149 [(t 44), (t 45), (Ki 9223372036854775807)], Im 43 46, Ie 47 0 43, Ie 48 1 43, Im 8 47, Im 9 48])
  (.seq (.reg [Im 49 8, ⟨(some 50), none, .build [(.int .i64 0), (.str []), (.int .i64 0)] [(0, 1, (Ki 2)), (2, 1, (t 49))]⟩, Im 51 9, Is 3 4 50, Im 5 51])
  .ret))
  (.seq (.reg [Im 53 6, ⟨(some 54), none, .bin .eql (t 53) (k (.int .u8 64))⟩, Im 52 54])
  (.cond (t 52)
  (.seq (.reg [Im 56 0, Im 57 1, ⟨(some 58), none, .bin .add (t 57) (Ki 1)⟩, Ip 59 149 [(t 56), (t 58), (Ki 1099511627776)], Im 55 59, Ie 60 0 55, Ie 61 1 55, Im 10 60, Im 11 61])
  (.seq (.seq (.reg [Im 62 11, ⟨(some 63), none, .bin .eql (t 62) (Ki 0)⟩])
  (.cond (t 63)
  (.seq (.reg [⟨(some 64), none, .build [(.int .i64 0), (.str []), (.int .i64 0)] []⟩, Is 3 4 64, ⟨(some 5), none, .mv (Ki 0)⟩])
  .ret)
  .skip))
  (.seq (.reg [Im 65 10, ⟨(some 66), none, .build [(.int .i64 0), (.str []), (.int .i64 0)] [(0, 1, (Ki 4)), (2, 1, (t 65))]⟩, Im 67 11, ⟨(some 68), none, .bin .add (t 67) (Ki 1)⟩, Is 3 4 66, Im 5 68])
  .ret)))
  (.seq (.reg [Im 70 6, ⟨(some 71), none, .bin .eql (t 70) (k (.int .u8 34))⟩, Im 69 71])
  (.cond (t 69)
  (.seq (.reg [Im 73 0, Im 74 1, Ip 75 150 [(t 73), (t 74)], Im 72 75, Ie 76 0 72, Ie 77 1 72, Im 12 76, Im 13 77])
  (.seq (.reg [Im 78 12, ⟨(some 79), none, .build [(.int .i64 0), (.str []), (.int .i64 0)] [(0, 1, (Ki 3)), (1, 1, (t 78))]⟩, Im 80 13, Is 3 4 79, Im 5 80])
  .ret))
  .skip)))))))))
  (.seq (.seq (.reg [Ip 81 151 [], Iz 82 81, ⟨(some 83), none, .mv (Ki 0)⟩])
  (.block 1
  (.loop
  (.seq (.reg [⟨(some 84), none, .bin .lss (t 83) (t 82)⟩])
  (.seq (.cond (t 84)
  .skip
  (.exit 1))
  (.seq (.block 2
  (.seq (.reg [⟨(some 85), none, .iaddr 1 (t 81) (t 83)⟩, Il 86 85, Im 15 86])
  (.seq (.reg [Im 87 0, Im 88 1, ⟨(some 89), none, .subs (t 87) (some (t 88)) none⟩, Im 90 15, Ip 91 152 [(t 89), (t 90)]])
  (.cond (t 91)
  (.seq (.reg [Im 92 15, ⟨(some 93), none, .build [(.int .i64 0), (.str []), (.int .i64 0)] [(0, 1, (Ki 5)), (1, 1, (t 92))]⟩, Im 94 15, ⟨(some 95), none, .lens (t 94)⟩, Is 3 4 93, Im 5 95])
  .ret)
  .skip))))
  (.reg [⟨(some 96), none, .bin .add (t 83) (Ki 1)⟩, Im 83 96])))))))
  (.seq (.reg [⟨(some 97), none, .build [(.int .i64 0), (.str []), (.int .i64 0)] []⟩, Is 3 4 97, ⟨(some 5), none, .mv (Ki 0)⟩])
  .ret)))))
theorem fn92 : Fn Go.Proofs.Tryz.prog 92 98 [.inr (4, true, 3), .inl 5] c92 :=
  ⟨⟨_, _, Go.Proofs.Tryz.func92, rfl, by kernel_rfl, Go.Proofs.Tryz.ntmps92, by kernel_rfl, ⟨fun f => imp.contains f, false, fun _ => false, false⟩, by kernel_rfl⟩⟩
def c118 : C :=
  (.seq (.reg [⟨(some 2), none, .mv (k (.str []))⟩, ⟨(some 3), none, .mv (k (.str []))⟩])
  (.seq (.reg [Im 5 0, ⟨(some 6), none, .bsl 1 [(k (.str [115, 117, 98, 106, 101, 99, 116])), (k (.str [114, 101, 115, 111, 117, 114, 99, 101])), (k (.str [97, 99, 116, 105, 111, 110])), (k (.str [101, 110, 118]))]⟩, Ic 7 119 [(t 5), (t 6)], Im 4 7])
  (.seq (.reg [Im 8 0, Ic 9 71 [(t 8), (k (.str [46]))]])
  (.seq (.reg [Im 10 4, Im 11 0, Ic 12 121 [(t 11)], Im 2 10, Im 3 12])
  .ret))))
theorem fn118 : Fn Go.Proofs.Tryz.prog 118 13 [.inl 2, .inl 3] c118 :=
  ⟨⟨_, _, Go.Proofs.Tryz.func118, rfl, by kernel_rfl, Go.Proofs.Tryz.ntmps118, by kernel_rfl, ⟨fun f => imp.contains f, false, fun _ => false, false⟩, by kernel_rfl⟩⟩
def c121 : C :=
  (.seq (.reg [⟨(some 2), none, .mv (k (.str []))⟩])
  (.seq (.seq (.reg [Im 4 0, Ip 5 177 [(t 4)], ⟨(some 3), none, .alloc [(.int .i64 0), (.str []), (.int .i64 0)]⟩, Is 3 3 5])
  (.seq (.reg [If 6 0 3, Il 7 6, ⟨(some 8), none, .bin .neq (t 7) (Ki 1)⟩, Im 9 8, Jf 10 9 false 1 3, Jl 11 9 false 10, ⟨(some 12), (some (9, false)), .pcall (k (.fn 17 [] [])) [(t 11)]⟩, ⟨(some 13), none, .pick (t 9) (k (.bool true)) (t 12)⟩])
  (.cond (t 13)
  (.seq (.reg [Im 14 0, Im 15 0, In 16 15, If 17 1 16, Il 18 17, Ic 19 105 [(t 14), (t 18), (Ki 2)]])
  (.seq (.reg [⟨(some 2), none, .mv (k (.str []))⟩])
  .ret))
  .skip)))
  (.seq (.reg [Im 20 0, Ic 21 120 [(t 20), (Ki 1)], ⟨(some 22), none, .field false 1 1 (t 21)⟩, Im 2 22])
  .ret)))
theorem fn121 : Fn Go.Proofs.Tryz.prog 121 23 [.inl 2] c121 :=
  ⟨⟨_, _, Go.Proofs.Tryz.func121, rfl, by kernel_rfl, Go.Proofs.Tryz.ntmps121, by kernel_rfl, ⟨fun f => imp.contains f, false, fun _ => false, false⟩, by kernel_rfl⟩⟩
def c170 : C :=
  (.seq (.reg [⟨(some 2), none, .alloc [(.str []), (.int .i64 0), (.int .i64 0), (.str []), .nils, (.str []), (.str []), .nils]⟩])
  (.seq (.seq (.reg [Im 3 0, Ic 4 69 [(t 3), (k (.str [110, 111, 116]))]])
  (.cond (t 4)
  (.seq (.reg [Im 5 0, Ic 6 170 [(t 5)], ⟨(some 7), none, .bsl 8 [(t 6)]⟩, ⟨(some 8), none, .build [(.str []), (.int .i64 0), (.int .i64 0), (.str []), .nils, (.str []), (.str []), .nils] [(0, 1, (k (.str [110, 111, 116]))), (7, 1, (t 7))]⟩, Is 8 2 8])
  .ret)
  .skip))
  (.seq (.reg [Im 9 0, Ic 10 202 [(t 9)], Is 8 2 10])
  .ret)))
theorem fn170 : Fn Go.Proofs.Tryz.prog 170 11 [.inr (2, true, 8)] c170 :=
  ⟨⟨_, _, Go.Proofs.Tryz.func170, rfl, by kernel_rfl, Go.Proofs.Tryz.ntmps170, by kernel_rfl, ⟨fun f => imp.contains f, false, fun _ => false, false⟩, by kernel_rfl⟩⟩
def c244 : C :=
  (.seq (.reg [⟨(some 2), none, .alloc [(.int .i64 0), (.int .i64 0), (.str []), .nils]⟩])
  (.seq (.seq (.reg [Im 3 0])
  (.cond (t 3)
  (.seq (.reg [⟨(some 4), none, .build [(.int .i64 0), (.int .i64 0), (.str []), .nils] [(0, 1, (Ki 1)), (1, 1, (Ki 1))]⟩, Is 4 2 4])
  .ret)
  .skip))
  (.seq (.reg [⟨(some 5), none, .build [(.int .i64 0), (.int .i64 0), (.str []), .nils] [(0, 1, (Ki 1))]⟩, Is 4 2 5])
  .ret)))
theorem fn244 : Fn Go.Proofs.Tryz.prog 244 6 [.inr (2, true, 4)] c244 :=
  ⟨⟨_, _, Go.Proofs.Tryz.func244, rfl, by kernel_rfl, Go.Proofs.Tryz.ntmps244, by kernel_rfl, ⟨fun f => imp.contains f, false, fun _ => false, false⟩, by kernel_rfl⟩⟩
end GP
namespace GP
open Go Go.Proofs
open Rd O
set_option maxRecDepth 100000
def c6 : C :=
  (.seq (.reg [⟨(some 2), none, .box (t 0)⟩, ⟨(some 4), none, .mv (k (.bool false))⟩])
  (.seq (.seq (.reg [Ip 9 18 [], ⟨(some 10), none, .un .not (t 9)⟩, Im 11 10, ⟨(some 12), (some (11, false)), .load true 8 (t 2)⟩, ⟨(some 13), (some (11, false)), .pcall (k (.fn 25 [] [])) [(t 12)]⟩, ⟨(some 14), (some (11, false)), .un .not (t 13)⟩, ⟨(some 15), none, .pick (t 11) (k (.bool true)) (t 14)⟩, Im 16 15, ⟨(some 17), (some (16, false)), .load true 8 (t 2)⟩, ⟨(some 18), (some (16, false)), .pcall (k (.fn 21 [] [])) [(t 17)]⟩, ⟨(some 19), (some (16, false)), .un .not (t 18)⟩, ⟨(some 20), none, .pick (t 16) (k (.bool true)) (t 19)⟩])
  (.cond (t 20)
  (.seq (.reg [Ip 21 18 [], Im 4 21])
  .ret)
  .skip))
  (.seq (.reg [Ia 22 8 2, Im 23 1, Ip 24 24 [(t 22), (t 23)], Im 5 24])
  (.seq (.reg [Im 26 5, Ip 27 19 [(t 26)], Im 25 27, Ie 28 0 25, Ie 29 1 25, Ie 30 2 25, ⟨(some 6), none, .alloc [(.str []), (.int .i64 0), (.int .i64 0), (.str []), .nils, (.str []), (.str []), .nils]⟩, Is 8 6 28, Im 7 29, Im 8 30])
  (.seq (.seq (.reg [Im 31 5, Iz 32 31, ⟨(some 33), none, .bin .gtr (t 32) (Ki 600)⟩])
  (.cond (t 33)
  (.seq (.reg [Im 34 8, ⟨(some 35), none, .bin .eql (t 34) (Ki 13)⟩, Im 36 35, Jm 37 36 true 7, ⟨(some 38), (some (36, true)), .bin .eql (t 37) (Ki 0)⟩, ⟨(some 39), none, .pick (t 36) (t 38) (k (.bool false))⟩, Im 4 39])
  .ret)
  .skip))
  (.seq (.seq (.draw 0 [(Ia 40 8 2, []), (Ip 41 26 [(t 40)], []), (Ia 42 8 2, []), (Ip 43 22 [(t 42)], []), (⟨(some 44), none, .bin .neq (t 41) (t 43)⟩, []), (Im 45 44, []), (Jm 46 45 false 7, []), (⟨(some 47), (some (45, false)), .bin .neq (t 46) (Ki 0)⟩, []), (⟨(some 48), none, .pick (t 45) (k (.bool true)) (t 47)⟩, [])])
  (.cond (t 48)
  (.seq (.reg [⟨(some 4), none, .mv (k (.bool false))⟩])
  .ret)
  .skip))
  (.seq (.seq (.reg [Ia 49 8 2, Ip 50 22 [(t 49)], ⟨(some 51), none, .bin .gtr (t 50) (Ki 12)⟩])
  (.cond (t 51)
  (.seq (.reg [Im 52 8, ⟨(some 53), none, .bin .eql (t 52) (Ki 11)⟩, Im 54 53, ⟨(some 55), (some (54, true)), .load true 8 (t 6)⟩, ⟨(some 56), (some (54, true)), .build [(.str []), (.int .i64 0), (.int .i64 0), (.str []), .nils, (.str []), (.str []), .nils] []⟩, ⟨(some 57), (some (54, true)), .pcall (k (.fn 20 [] [])) [(t 55), (t 56)]⟩, ⟨(some 58), none, .pick (t 54) (t 57) (k (.bool false))⟩, Im 4 58])
  .ret)
  .skip))
  (.seq (.reg [Im 59 8, ⟨(some 60), none, .bin .eql (t 59) (Ki 0)⟩, Im 61 60, ⟨(some 62), (some (61, true)), .load true 8 (t 6)⟩, ⟨(some 63), (some (61, true)), .load true 8 (t 2)⟩, ⟨(some 64), (some (61, true)), .pcall (k (.fn 20 [] [])) [(t 62), (t 63)]⟩, ⟨(some 65), none, .pick (t 61) (t 64) (k (.bool false))⟩, Im 66 65, ⟨(some 67), (some (66, true)), .load true 8 (t 6)⟩, ⟨(some 68), (some (66, true)), .load true 8 (t 2)⟩, ⟨(some 69), (some (66, true)), .pcall (k (.fn 27 [] [])) [(t 67), (t 68)]⟩, ⟨(some 70), none, .pick (t 66) (t 69) (k (.bool false))⟩, Im 4 70])
  .ret))))))))
def c40 : C :=
  (.seq (.reg [⟨(some 2), none, .mv (k .nils)⟩, ⟨(some 3), none, .mv (Ki 0)⟩, ⟨(some 4), none, .mv (Ki 0)⟩])
  (.seq (.seq (.reg [Im 9 0, ⟨(some 10), none, .lens (t 9)⟩, ⟨(some 11), none, .bin .gtr (t 10) (Ki 4096)⟩])
  (.cond (t 11)
  (.seq (.reg [⟨(some 2), none, .mv (k .nils)⟩, ⟨(some 3), none, .mv (Ki 0)⟩, ⟨(some 4), none, .mv (Ki 3)⟩])
  .ret)
  .skip))
  (.seq (.reg [⟨(some 5), none, .mv (k .nils)⟩])
  (.seq (.seq (.reg [Im 12 0, Ip 13 91 [(t 12), (Ki 0)], Im 6 13])
  (.block 0
  (.loop
  (.seq (.seq (.reg [Im 14 6, Im 15 0, ⟨(some 16), none, .lens (t 15)⟩, ⟨(some 17), none, .bin .lss (t 14) (t 16)⟩])
  (.cond (t 17)
  .skip
  (.exit 0)))
  (.seq (.block 1
  (.seq (.reg [Im 22 0, Im 23 6, Ip 24 92 [(t 22), (t 23)], Im 21 24, Ie 25 0 21, Ie 26 1 21, ⟨(some 7), none, .alloc [(.int .i64 0), (.str []), (.int .i64 0)]⟩, Is 3 7 25, Im 8 26])
  (.seq (.block 2
  (.seq (.reg [Im 28 8, ⟨(some 29), none, .bin .eql (t 28) (Ki 0)⟩, Im 27 29])
  (.cond (t 27)
  (.seq (.reg [Im 30 6, ⟨(some 2), none, .mv (k .nils)⟩, Im 3 30, ⟨(some 4), none, .mv (Ki 2)⟩])
  .ret)
  (.seq (.reg [Im 32 5, Iz 33 32, ⟨(some 34), none, .bin .eql (t 33) (Ki 600)⟩, Im 31 34])
  (.cond (t 31)
  (.seq (.reg [Im 35 6, ⟨(some 2), none, .mv (k .nils)⟩, Im 3 35, ⟨(some 4), none, .mv (Ki 13)⟩])
  .ret)
  .skip)))))
  (.seq (.reg [Im 36 5, Ia 37 3 7, ⟨(some 38), none, .bsl 3 [(t 37)]⟩, ⟨(some 39), none, .app false 3 32 (t 36) (t 38)⟩, Im 5 39])
  (.reg [Im 40 6, Im 41 8, ⟨(some 42), none, .bin .add (t 40) (t 41)⟩, Im 6 42])))))
  (.reg [Im 18 0, Im 19 6, Ip 20 91 [(t 18), (t 19)], Im 6 20]))))))
  (.seq (.reg [Im 43 5, Im 2 43, ⟨(some 3), none, .mv (Ki 0)⟩, ⟨(some 4), none, .mv (Ki 0)⟩])
  .ret)))))
theorem fn40 : Fn Go.Proofs.Tryz.prog 40 44 [.inl 2, .inl 3, .inl 4] c40 :=
  ⟨⟨_, _, Go.Proofs.Tryz.func40, rfl, by kernel_rfl, Go.Proofs.Tryz.ntmps40, by kernel_rfl, ⟨fun f => imp.contains f, false, fun _ => false, false⟩, by kernel_rfl⟩⟩
def c102 : C :=
  (.seq (.reg [⟨(some 4), none, .mv (Ki 0)⟩])
  (.seq (.seq (.reg [Im 6 0, Iz 7 6, ⟨(some 8), none, .mv (Ki 0)⟩])
  (.block 0
  (.loop
  (.seq (.reg [⟨(some 9), none, .bin .lss (t 8) (t 7)⟩])
  (.seq (.cond (t 9)
  .skip
  (.exit 0))
  (.seq (.block 1
  (.seq (.reg [Im 10 8, Im 5 10])
  (.seq (.reg [Im 11 1, Im 12 0, Im 13 5, ⟨(some 14), none, .iaddr 1 (t 12) (t 13)⟩, Il 15 14, ⟨(some 16), none, .bin .eql (t 11) (t 15)⟩])
  (.cond (t 16)
  (.seq (.reg [Im 17 5, Im 4 17])
  .ret)
  .skip))))
  (.reg [⟨(some 18), none, .bin .add (t 8) (Ki 1)⟩, Im 8 18])))))))
  (.seq (.reg [⟨(some 4), none, .mv (k (.int .i64 (-1)))⟩])
  .ret)))
theorem fn102 : Fn Go.Proofs.Tryz.prog 102 19 [.inl 4] c102 :=
  ⟨⟨_, _, Go.Proofs.Tryz.func102, rfl, by kernel_rfl, Go.Proofs.Tryz.ntmps102, by kernel_rfl, ⟨fun f => imp.contains f, false, fun _ => false, false⟩, by kernel_rfl⟩⟩
def c104 : C :=
  (.seq (.reg [⟨(some 2), none, .alloc [(.str []), (.int .i64 0), (.int .i64 0), (.str []), .nils, (.str []), (.str []), .nils]⟩])
  (.seq (.reg [Im 3 0, Im 4 0, ⟨(some 5), none, .mkfn 170 [(t 4)] []⟩, ⟨(some 6), none, .bsl 1 [(k (.str [97, 110, 100]))]⟩, Ic 7 103 [(t 3), (t 5), (t 6)], Is 8 2 7])
  .ret))
theorem fn104 : Fn Go.Proofs.Tryz.prog 104 8 [.inr (2, true, 8)] c104 :=
  ⟨⟨_, _, Go.Proofs.Tryz.func104, rfl, by kernel_rfl, Go.Proofs.Tryz.ntmps104, by kernel_rfl, ⟨fun f => imp.contains f, false, fun _ => false, false⟩, by kernel_rfl⟩⟩
def c105 : C :=
  (.seq (.reg [Im 6 0, In 7 6, If 8 2 7, Il 9 8, ⟨(some 10), none, .bin .eql (t 9) (Ki 0)⟩])
  (.cond (t 10)
  (.reg [Im 11 0, Im 12 0, Im 13 1, Im 14 2, In 15 11, If 16 1 15, Is 1 16 13, In 17 12, If 18 2 17, Is 1 18 14])
  .skip))
theorem fn105 : Fn Go.Proofs.Tryz.prog 105 19 [] c105 :=
  ⟨⟨_, _, Go.Proofs.Tryz.func105, rfl, by kernel_rfl, Go.Proofs.Tryz.ntmps105, by kernel_rfl, ⟨fun f => imp.contains f, false, fun _ => false, false⟩, by kernel_rfl⟩⟩
def c112 : C :=
  (.seq (.reg [⟨(some 2), none, .mv (Ki 0)⟩])
  (.seq (.reg [⟨(some 3), none, .mv (Ki 0)⟩])
  (.seq (.seq (.reg [Im 6 0, Iz 7 6, ⟨(some 8), none, .mv (Ki 0)⟩])
  (.block 0
  (.loop
  (.seq (.reg [⟨(some 9), none, .bin .lss (t 8) (t 7)⟩])
  (.seq (.cond (t 9)
  .skip
  (.exit 0))
  (.seq (.block 1
  (.seq (.reg [⟨(some 10), none, .iaddr 1 (t 6) (t 8)⟩, Il 11 10, Im 5 11])
  (.seq (.reg [Im 12 5, Im 13 3, ⟨(some 14), none, .bin .neq (t 12) (t 13)⟩])
  (.cond (t 14)
  (.seq (.reg [Im 15 5, Im 2 15])
  .ret)
  .skip))))
  (.reg [⟨(some 16), none, .bin .add (t 8) (Ki 1)⟩, Im 8 16])))))))
  (.seq (.reg [Im 17 3, Im 2 17])
  .ret))))
theorem fn112 : Fn Go.Proofs.Tryz.prog 112 18 [.inl 2] c112 :=
  ⟨⟨_, _, Go.Proofs.Tryz.func112, rfl, by kernel_rfl, Go.Proofs.Tryz.ntmps112, by kernel_rfl, ⟨fun f => imp.contains f, false, fun _ => false, false⟩, by kernel_rfl⟩⟩
def c114 : C :=
  (.seq (.reg [⟨(some 4), none, .mv (Ki 0)⟩])
  (.seq (.reg [Im 7 0, Ip 8 175 [(t 7)], Im 5 8])
  (.seq (.reg [Im 9 1, Ip 10 175 [(t 9)], Im 6 10])
  (.seq (.seq (.reg [Im 11 5])
  (.cond (t 11)
  (.seq (.seq (.reg [Im 12 6])
  (.cond (t 12)
  (.seq (.reg [⟨(some 4), none, .mv (Ki 0)⟩])
  .ret)
  .skip))
  (.seq (.reg [⟨(some 4), none, .mv (k (.int .i64 (-1)))⟩])
  .ret))
  .skip))
  (.seq (.seq (.reg [Im 13 6])
  (.cond (t 13)
  (.seq (.reg [⟨(some 4), none, .mv (Ki 1)⟩])
  .ret)
  .skip))
  (.seq (.seq (.reg [Im 14 0, Im 15 1, ⟨(some 16), none, .bin .lss (t 14) (t 15)⟩])
  (.cond (t 16)
  (.seq (.reg [⟨(some 4), none, .mv (k (.int .i64 (-1)))⟩])
  .ret)
  .skip))
  (.seq (.seq (.reg [Im 17 0, Im 18 1, ⟨(some 19), none, .bin .gtr (t 17) (t 18)⟩])
  (.cond (t 19)
  (.seq (.reg [⟨(some 4), none, .mv (Ki 1)⟩])
  .ret)
  .skip))
  (.seq (.reg [⟨(some 4), none, .mv (Ki 0)⟩])
  .ret))))))))
theorem fn114 : Fn Go.Proofs.Tryz.prog 114 20 [.inl 4] c114 :=
  ⟨⟨_, _, Go.Proofs.Tryz.func114, rfl, by kernel_rfl, Go.Proofs.Tryz.ntmps114, by kernel_rfl, ⟨fun f => imp.contains f, false, fun _ => false, false⟩, by kernel_rfl⟩⟩
def c152 : C :=
  (.seq (.reg [⟨(some 4), none, .mv (k (.bool false))⟩])
  (.seq (.reg [Im 5 0, Im 6 1, Ip 7 186 [(t 5), (t 6)], Im 4 7])
  .ret))
theorem fn152 : Fn Go.Proofs.Tryz.prog 152 8 [.inl 4] c152 :=
  ⟨⟨_, _, Go.Proofs.Tryz.func152, rfl, by kernel_rfl, Go.Proofs.Tryz.ntmps152, by kernel_rfl, ⟨fun f => imp.contains f, false, fun _ => false, false⟩, by kernel_rfl⟩⟩
def c186 : C :=
  (.seq (.reg [⟨(some 4), none, .mv (k (.bool false))⟩])
  (.seq (.reg [Im 5 0, ⟨(some 6), none, .lens (t 5)⟩, Im 7 1, ⟨(some 8), none, .lens (t 7)⟩, ⟨(some 9), none, .bin .geq (t 6) (t 8)⟩, Im 10 9, Jm 11 10 true 0, Jm 12 10 true 1, ⟨(some 13), (some (10, true)), .lens (t 12)⟩, ⟨(some 14), (some (10, true)), .subs (t 11) none (some (t 13))⟩, Jm 15 10 true 1, ⟨(some 16), (some (10, true)), .bin .eql (t 14) (t 15)⟩, ⟨(some 17), none, .pick (t 10) (t 16) (k (.bool false))⟩, Im 4 17])
  .ret))
theorem fn186 : Fn Go.Proofs.Tryz.prog 186 18 [.inl 4] c186 :=
  ⟨⟨_, _, Go.Proofs.Tryz.func186, rfl, by kernel_rfl, Go.Proofs.Tryz.ntmps186, by kernel_rfl, ⟨fun f => imp.contains f, false, fun _ => false, false⟩, by kernel_rfl⟩⟩
def c199 : C :=
  (.seq (.reg [⟨(some 2), none, .mv (k (.bool false))⟩])
  (.seq (.reg [Im 3 0, Ip 4 147 [(t 3)], Im 5 4, Jm 6 5 false 0, ⟨(some 7), (some (5, false)), .pcall (k (.fn 148 [] [])) [(t 6)]⟩, ⟨(some 8), none, .pick (t 5) (k (.bool true)) (t 7)⟩, Im 2 8])
  .ret))
theorem fn199 : Fn Go.Proofs.Tryz.prog 199 9 [.inl 2] c199 :=
  ⟨⟨_, _, Go.Proofs.Tryz.func199, rfl, by kernel_rfl, Go.Proofs.Tryz.ntmps199, by kernel_rfl, ⟨fun f => imp.contains f, false, fun _ => false, false⟩, by kernel_rfl⟩⟩
end GP
namespace GP
open Go Go.Proofs
open Rd O
set_option maxRecDepth 100000
def c4 : C :=
  (.seq (.reg [⟨(some 2), none, .mv (k (.bool false))⟩])
  (.seq (.seq (.reg [Ip 6 18 [], ⟨(some 7), none, .un .not (t 6)⟩, Im 8 7, Jm 9 8 false 0, ⟨(some 10), (some (8, false)), .len (t 9)⟩, ⟨(some 11), (some (8, false)), .bin .gtr (t 10) (Ki 80)⟩, ⟨(some 12), none, .pick (t 8) (k (.bool true)) (t 11)⟩])
  (.cond (t 12)
  (.seq (.reg [Ip 13 18 [], Im 2 13])
  .ret)
  .skip))
  (.seq (.reg [Im 15 0, Ip 16 19 [(t 15)], Im 14 16, Ie 17 0 14, Ie 18 1 14, Ie 19 2 14, ⟨(some 3), none, .alloc [(.str []), (.int .i64 0), (.int .i64 0), (.str []), .nils, (.str []), (.str []), .nils]⟩, Is 8 3 17, Im 4 18, Im 5 19])
  (.seq (.seq (.reg [Im 20 5, ⟨(some 21), none, .bin .neq (t 20) (Ki 0)⟩])
  (.cond (t 21)
  (.seq (.reg [Im 22 5, ⟨(some 23), none, .bin .eql (t 22) (Ki 2)⟩, Im 24 23, Jm 25 24 false 5, ⟨(some 26), (some (24, false)), .bin .eql (t 25) (Ki 11)⟩, Jm 27 24 false 26, Jm 28 27 true 4, ⟨(some 29), (some (27, true)), .bin .eql (t 28) (Ki 0)⟩, ⟨(some 30), (some (24, false)), .pick (t 27) (t 29) (k (.bool false))⟩, ⟨(some 31), none, .pick (t 24) (k (.bool true)) (t 30)⟩, Im 32 31, Jm 33 32 true 4, ⟨(some 34), (some (32, true)), .bin .geq (t 33) (Ki 0)⟩, ⟨(some 35), none, .pick (t 32) (t 34) (k (.bool false))⟩, Im 36 35, Jm 37 36 true 4, Jm 38 36 true 0, ⟨(some 39), (some (36, true)), .len (t 38)⟩, ⟨(some 40), (some (36, true)), .bin .leq (t 37) (t 39)⟩, ⟨(some 41), none, .pick (t 36) (t 40) (k (.bool false))⟩, Im 42 41, ⟨(some 43), (some (42, true)), .load true 8 (t 3)⟩, ⟨(some 44), (some (42, true)), .build [(.str []), (.int .i64 0), (.int .i64 0), (.str []), .nils, (.str []), (.str []), .nils] []⟩, ⟨(some 45), (some (42, true)), .pcall (k (.fn 20 [] [])) [(t 43), (t 44)]⟩, ⟨(some 46), none, .pick (t 42) (t 45) (k (.bool false))⟩, Im 2 46])
  .ret)
  .skip))
  (.seq (.draw 0 [(Im 47 4, []), (⟨(some 48), none, .bin .eql (t 47) (Ki 0)⟩, []), (Im 49 48, []), (⟨(some 50), (some (49, true)), .load true 8 (t 3)⟩, []), (⟨(some 51), (some (49, true)), .pcall (k (.fn 21 [] [])) [(t 50)]⟩, []), (⟨(some 52), none, .pick (t 49) (t 51) (k (.bool false))⟩, []), (Im 53 52, []), (⟨(some 54), (some (53, true)), .load true 8 (t 3)⟩, []), (⟨(some 55), (some (53, true)), .pcall (k (.fn 22 [] [])) [(t 54)]⟩, []), (⟨(some 56), (some (53, true)), .bin .leq (t 55) (Ki 12)⟩, []), (⟨(some 57), none, .pick (t 53) (t 56) (k (.bool false))⟩, []), (Im 58 57, []), (Jm 59 58 true 0, []), (⟨(some 60), (some (58, true)), .pcall (k (.fn 23 [] [])) [(t 59)]⟩, []), (⟨(some 61), (some (58, true)), .load true 8 (t 3)⟩, []), (⟨(some 62), (some (58, true)), .pcall (k (.fn 24 [] [])) [(t 61), (k (.bool true))]⟩, []), (⟨(some 63), (some (58, true)), .pcall (k (.fn 23 [] [])) [(t 62)]⟩, []), (⟨(some 64), (some (58, true)), .bin .eql (t 60) (t 63)⟩, []), (⟨(some 65), none, .pick (t 58) (t 64) (k (.bool false))⟩, []), (Im 2 65, [])])
  .ret)))))
def c47 : C :=
  (.seq (.reg [⟨(some 4), none, .mv (k (.bool false))⟩])
  (.seq (.reg [Im 5 0, Im 6 1, Ip 7 102 [(t 5), (t 6)], ⟨(some 8), none, .bin .geq (t 7) (Ki 0)⟩, Im 4 8])
  .ret))
theorem fn47 : Fn Go.Proofs.Tryz.prog 47 9 [.inl 4] c47 :=
  ⟨⟨_, _, Go.Proofs.Tryz.func47, rfl, by kernel_rfl, Go.Proofs.Tryz.ntmps47, by kernel_rfl, ⟨fun f => imp.contains f, false, fun _ => false, false⟩, by kernel_rfl⟩⟩
def c144 : C :=
  (.seq (.reg [⟨(some 6), none, .mv (Ki 0)⟩])
  (.seq (.reg [Im 8 1, Im 7 8])
  (.seq (.block 0
  (.loop
  (.seq (.seq (.reg [Im 9 7, Im 10 0, ⟨(some 11), none, .lens (t 10)⟩, ⟨(some 12), none, .bin .lss (t 9) (t 11)⟩, Im 13 12, Jm 14 13 true 2, Jm 15 13 true 0, Jm 16 13 true 7, ⟨(some 17), (some (13, true)), .idxs (t 15) (t 16)⟩, ⟨(some 18), (some (13, true)), .pcall (t 14) [(t 17)]⟩, ⟨(some 19), none, .pick (t 13) (t 18) (k (.bool false))⟩])
  (.cond (t 19)
  .skip
  (.exit 0)))
  (.block 1
  (.reg [Im 20 7, ⟨(some 21), none, .bin .add (t 20) (Ki 1)⟩, Im 7 21])))))
  (.seq (.reg [Im 22 7, Im 23 1, ⟨(some 24), none, .bin .sub (t 22) (t 23)⟩, Im 6 24])
  .ret))))
theorem fn144 : Fn Go.Proofs.Tryz.prog 144 25 [.inl 6] c144 :=
  ⟨⟨_, _, Go.Proofs.Tryz.func144, rfl, by kernel_rfl, Go.Proofs.Tryz.ntmps144, by kernel_rfl, ⟨fun f => imp.contains f, false, fun _ => false, false⟩, by kernel_rfl⟩⟩
def c151 : C :=
  (.seq (.reg [⟨(some 0), none, .mv (k .nils)⟩])
  (.seq (.reg [⟨(some 1), none, .bsl 1 [(k (.str [61, 61])), (k (.str [33, 61])), (k (.str [60, 61])), (k (.str [62, 61])), (k (.str [123])), (k (.str [125])), (k (.str [40])), (k (.str [41])), (k (.str [91])), (k (.str [93])), (k (.str [59])), (k (.str [46])), (k (.str [44])), (k (.str [43])), (k (.str [45])), (k (.str [42])), (k (.str [60])), (k (.str [62]))]⟩, Im 0 1])
  .ret))
theorem fn151 : Fn Go.Proofs.Tryz.prog 151 2 [.inl 0] c151 :=
  ⟨⟨_, _, Go.Proofs.Tryz.func151, rfl, by kernel_rfl, Go.Proofs.Tryz.ntmps151, by kernel_rfl, ⟨fun f => imp.contains f, false, fun _ => false, false⟩, by kernel_rfl⟩⟩
def c236 : C :=
  (.seq (.reg [⟨(some 2), none, .alloc [(.str []), (.int .i64 0), (.int .i64 0), (.str []), .nils, (.str []), (.str []), .nils]⟩])
  (.seq (.seq (.reg [Im 3 0, Ic 4 69 [(t 3), (k (.str [45]))]])
  (.cond (t 4)
  (.seq (.reg [Im 5 0, Ic 6 236 [(t 5)], ⟨(some 7), none, .bsl 8 [(t 6)]⟩, ⟨(some 8), none, .build [(.str []), (.int .i64 0), (.int .i64 0), (.str []), .nils, (.str []), (.str []), .nils] [(0, 1, (k (.str [110, 101, 103]))), (7, 1, (t 7))]⟩, Is 8 2 8])
  .ret)
  .skip))
  (.seq (.reg [Im 9 0, Ic 10 238 [(t 9)], Is 8 2 10])
  .ret)))
theorem fn236 : Fn Go.Proofs.Tryz.prog 236 11 [.inr (2, true, 8)] c236 :=
  ⟨⟨_, _, Go.Proofs.Tryz.func236, rfl, by kernel_rfl, Go.Proofs.Tryz.ntmps236, by kernel_rfl, ⟨fun f => imp.contains f, false, fun _ => false, false⟩, by kernel_rfl⟩⟩
def c245 : C :=
  (.seq (.reg [⟨(some 2), none, .alloc [(.int .i64 0), (.int .i64 0), (.str []), .nils]⟩])
  (.seq (.seq (.reg [Im 5 0, Ic 6 69 [(t 5), (k (.str [45]))]])
  (.cond (t 6)
  (.seq (.reg [Im 7 0, Ic 8 120 [(t 7), (Ki 2)], ⟨(some 9), none, .field false 2 1 (t 8)⟩, ⟨(some 10), none, .un .neg (t 9)⟩, Ip 11 242 [(t 10)], Is 4 2 11])
  .ret)
  .skip))
  (.seq (.reg [Im 13 0, Ic 14 239 [(t 13)], Im 12 14, Ie 15 0 12, Ie 16 1 12, ⟨(some 3), none, .alloc [(.int .i64 0), (.int .i64 0), (.str []), .nils]⟩, Is 4 3 15, Im 4 16])
  (.seq (.seq (.reg [Im 17 4, ⟨(some 18), none, .un .not (t 17)⟩])
  (.cond (t 18)
  (.reg [Im 19 0, Im 20 0, In 21 20, If 22 1 21, Il 23 22, Ic 24 105 [(t 19), (t 23), (Ki 2)]])
  .skip))
  (.seq (.reg [Ia 25 4 3, Is 4 2 25])
  .ret)))))
theorem fn245 : Fn Go.Proofs.Tryz.prog 245 26 [.inr (2, true, 4)] c245 :=
  ⟨⟨_, _, Go.Proofs.Tryz.func245, rfl, by kernel_rfl, Go.Proofs.Tryz.ntmps245, by kernel_rfl, ⟨fun f => imp.contains f, false, fun _ => false, false⟩, by kernel_rfl⟩⟩
def c246 : C :=
  (.seq (.reg [⟨(some 2), none, .alloc [(.int .i64 0), (.int .i64 0), (.str []), .nils]⟩, ⟨(some 3), none, .mv (Ki 0)⟩])
  (.seq (.seq (.reg [Im 9 0, Iz 10 9, ⟨(some 11), none, .mv (Ki 0)⟩])
  (.block 0
  (.loop
  (.seq (.reg [⟨(some 12), none, .bin .lss (t 11) (t 10)⟩])
  (.seq (.cond (t 12)
  .skip
  (.exit 0))
  (.seq (.block 1
  (.seq (.reg [⟨(some 13), none, .iaddr 4 (t 9) (t 11)⟩, Ia 14 4 13, ⟨(some 5), none, .alloc [(.int .i64 0), (.int .i64 0), (.str []), .nils]⟩, Is 4 5 14])
  (.seq (.reg [Ia 15 4 5, Ip 16 129 [(t 15)], ⟨(some 17), none, .un .not (t 16)⟩])
  (.cond (t 17)
  (.seq (.reg [⟨(some 18), none, .build [(.int .i64 0), (.int .i64 0), (.str []), .nils] []⟩, Is 4 2 18, ⟨(some 3), none, .mv (Ki 1)⟩])
  .ret)
  .skip))))
  (.reg [⟨(some 19), none, .bin .add (t 11) (Ki 1)⟩, Im 11 19])))))))
  (.seq (.seq (.reg [Im 20 0, Iz 21 20, ⟨(some 22), none, .mv (Ki 0)⟩])
  (.block 2
  (.loop
  (.seq (.reg [⟨(some 23), none, .bin .lss (t 22) (t 21)⟩])
  (.seq (.cond (t 23)
  .skip
  (.exit 2))
  (.seq (.block 3
  (.seq (.reg [⟨(some 24), none, .iaddr 4 (t 20) (t 22)⟩, Ia 25 4 24, ⟨(some 7), none, .alloc [(.int .i64 0), (.int .i64 0), (.str []), .nils]⟩, Is 4 7 25])
  (.seq (.draw 0 [(If 26 0 7, []), (Il 27 26, []), (⟨(some 28), none, .bin .eql (t 27) (Ki 0)⟩, []), (Im 29 28, []), (Jf 30 29 false 0 7, []), (Jl 31 29 false 30, []), (⟨(some 32), (some (29, false)), .bin .eql (t 31) (Ki 5)⟩, []), (⟨(some 33), none, .pick (t 29) (k (.bool true)) (t 32)⟩, []), (Im 34 33, []), (Jf 35 34 false 0 7, []), (Jl 36 34 false 35, []), (Jm 37 34 false 0, []), (⟨(some 38), (some (34, false)), .iaddr 4 (t 37) (Ki 0)⟩, []), (Jf 39 34 false 0 38, []), (Jl 40 34 false 39, []), (⟨(some 41), (some (34, false)), .bin .neq (t 36) (t 40)⟩, []), (⟨(some 42), none, .pick (t 34) (k (.bool true)) (t 41)⟩, [])])
  (.cond (t 42)
  (.seq (.reg [⟨(some 43), none, .build [(.int .i64 0), (.int .i64 0), (.str []), .nils] []⟩, Is 4 2 43, ⟨(some 3), none, .mv (Ki 6)⟩])
  .ret)
  .skip))))
  (.reg [⟨(some 44), none, .bin .add (t 22) (Ki 1)⟩, Im 22 44])))))))
  (.seq (.reg [Im 45 0, Ic 46 247 [(t 45)], Im 8 46])
  (.seq (.reg [Im 47 8, Ic 48 248 [(t 47), (k (.fn 64 [] []))]])
  (.seq (.reg [Im 49 8, Ic 50 249 [(t 49), (k (.fn 250 [] []))], Im 8 50])
  (.seq (.seq (.reg [Im 51 8, Iz 52 51, ⟨(some 53), none, .bin .gtr (t 52) (Ki 16)⟩])
  (.cond (t 53)
  (.seq (.reg [⟨(some 54), none, .build [(.int .i64 0), (.int .i64 0), (.str []), .nils] []⟩, Is 4 2 54, ⟨(some 3), none, .mv (Ki 13)⟩])
  .ret)
  .skip))
  (.seq (.reg [Im 55 8, ⟨(some 56), none, .build [(.int .i64 0), (.int .i64 0), (.str []), .nils] [(0, 1, (Ki 5)), (3, 1, (t 55))]⟩, Is 4 2 56, ⟨(some 3), none, .mv (Ki 0)⟩])
  .ret))))))))
theorem fn246 : Fn Go.Proofs.Tryz.prog 246 57 [.inr (2, true, 4), .inl 3] c246 :=
  ⟨⟨_, _, Go.Proofs.Tryz.func246, rfl, by kernel_rfl, Go.Proofs.Tryz.ntmps246, by kernel_rfl, ⟨fun f => imp.contains f, true, fun _ => false, false⟩, by kernel_rfl⟩⟩
def c248 : C :=
  (.seq (.reg [Im 5 0, Iz 6 5, Im 4 6])
  (.reg [Im 7 0, Im 8 4, Im 9 4, ⟨(some 10), none, .conv .u64 (t 9)⟩, Ip 11 252 [(t 10)], Im 12 1, Ip 13 251 [(t 7), (Ki 0), (t 8), (t 11), (t 12)]]))
theorem fn248 : Fn Go.Proofs.Tryz.prog 248 14 [] c248 :=
  ⟨⟨_, _, Go.Proofs.Tryz.func248, rfl, by kernel_rfl, Go.Proofs.Tryz.ntmps248, by kernel_rfl, ⟨fun f => imp.contains f, false, fun _ => false, false⟩, by kernel_rfl⟩⟩
def c250 : C :=
  (.seq (.reg [⟨(some 2), none, .box (t 0)⟩, ⟨(some 3), none, .box (t 1)⟩, ⟨(some 4), none, .mv (k (.bool false))⟩])
  (.seq (.reg [Ia 5 4 2, Ia 6 4 3, Ip 7 64 [(t 5), (t 6)], ⟨(some 8), none, .bin .eql (t 7) (Ki 0)⟩, Im 4 8])
  .ret))
theorem fn250 : Fn Go.Proofs.Tryz.prog 250 9 [.inl 4] c250 :=
  ⟨⟨_, _, Go.Proofs.Tryz.func250, rfl, by kernel_rfl, Go.Proofs.Tryz.ntmps250, by kernel_rfl, ⟨fun f => imp.contains f, false, fun _ => false, false⟩, by kernel_rfl⟩⟩
end GP
namespace GP
open Go Go.Proofs
open Rd O
set_option maxRecDepth 100000
def c17 : C :=
  (.seq (.reg [⟨(some 2), none, .mv (k (.bool false))⟩])
  (.seq (.reg [Ip 3 48 [], Im 4 0, Ip 5 47 [(t 3), (t 4)], Im 2 5])
  .ret))
theorem fn17 : Fn Go.Proofs.Tryz.prog 17 6 [.inl 2] c17 :=
  ⟨⟨_, _, Go.Proofs.Tryz.func17, rfl, by kernel_rfl, Go.Proofs.Tryz.ntmps17, by kernel_rfl, ⟨fun f => imp.contains f, false, fun _ => false, false⟩, by kernel_rfl⟩⟩
def c26 : C :=
  (.seq (.reg [⟨(some 1), none, .box (t 0)⟩, ⟨(some 2), none, .mv (Ki 0)⟩])
  (.seq (.reg [⟨(some 3), none, .mv (Ki 0)⟩])
  (.seq (.seq (.reg [If 6 7 1, Il 7 6, Iz 8 7, ⟨(some 9), none, .mv (Ki 0)⟩])
  (.block 0
  (.loop
  (.seq (.reg [⟨(some 10), none, .bin .lss (t 9) (t 8)⟩])
  (.seq (.cond (t 10)
  .skip
  (.exit 0))
  (.seq (.block 1
  (.seq (.reg [⟨(some 11), none, .iaddr 8 (t 7) (t 9)⟩, Ia 12 8 11, ⟨(some 5), none, .alloc [(.str []), (.int .i64 0), (.int .i64 0), (.str []), .nils, (.str []), (.str []), .nils]⟩, Is 8 5 12])
  (.reg [Im 13 3, Ia 14 8 5, Ip 15 26 [(t 14)], ⟨(some 16), none, .mx (t 13) (t 15)⟩, Im 3 16])))
  (.reg [⟨(some 17), none, .bin .add (t 9) (Ki 1)⟩, Im 9 17])))))))
  (.seq (.reg [Im 18 3, ⟨(some 19), none, .bin .add (t 18) (Ki 1)⟩, Im 2 19])
  .ret))))
theorem fn26 : Fn Go.Proofs.Tryz.prog 26 20 [.inl 2] c26 :=
  ⟨⟨_, _, Go.Proofs.Tryz.func26, rfl, by kernel_rfl, Go.Proofs.Tryz.ntmps26, by kernel_rfl, ⟨fun f => imp.contains f, false, fun _ => false, false⟩, by kernel_rfl⟩⟩
def c71 : C :=
  (.seq (.reg [Im 4 0, Im 5 1, Ic 6 69 [(t 4), (t 5)], ⟨(some 7), none, .un .not (t 6)⟩])
  (.cond (t 7)
  (.reg [Im 8 0, Im 9 0, In 10 9, If 11 1 10, Il 12 11, Ic 13 105 [(t 8), (t 12), (Ki 2)]])
  .skip))
theorem fn71 : Fn Go.Proofs.Tryz.prog 71 14 [] c71 :=
  ⟨⟨_, _, Go.Proofs.Tryz.func71, rfl, by kernel_rfl, Go.Proofs.Tryz.ntmps71, by kernel_rfl, ⟨fun f => imp.contains f, false, fun _ => false, false⟩, by kernel_rfl⟩⟩
def c91 : C :=
  (.seq (.reg [⟨(some 4), none, .mv (Ki 0)⟩])
  (.seq (.block 0
  (.loop
  (.seq (.seq (.reg [Im 5 1, Im 6 0, ⟨(some 7), none, .lens (t 6)⟩, ⟨(some 8), none, .bin .lss (t 5) (t 7)⟩])
  (.cond (t 8)
  .skip
  (.exit 0)))
  (.block 1
  (.seq (.reg [Im 9 0, Im 10 1, ⟨(some 11), none, .idxs (t 9) (t 10)⟩])
  (.block 2
  (.seq (.seq (.reg [⟨(some 14), none, .bin .eql (t 11) (k (.int .u8 32))⟩, Im 13 14])
  (.cond (t 13)
  .skip
  (.reg [⟨(some 15), none, .bin .eql (t 11) (k (.int .u8 10))⟩, Im 13 15])))
  (.cond (t 13)
  (.reg [Im 16 1, ⟨(some 17), none, .bin .add (t 16) (Ki 1)⟩, Im 1 17])
  (.seq (.reg [⟨(some 19), none, .bin .eql (t 11) (k (.int .u8 35))⟩, Im 18 19])
  (.cond (t 18)
  (.reg [Im 20 1, Im 21 0, Im 22 1, Ip 23 144 [(t 21), (t 22), (k (.fn 145 [] []))], ⟨(some 24), none, .bin .add (t 20) (t 23)⟩, Im 1 24])
  (.seq (.reg [Im 12 1, Im 4 12])
  .ret)))))))))))
  (.seq (.reg [Im 25 1, Im 4 25])
  .ret)))
theorem fn91 : Fn Go.Proofs.Tryz.prog 91 26 [.inl 4] c91 :=
  ⟨⟨_, _, Go.Proofs.Tryz.func91, rfl, by kernel_rfl, Go.Proofs.Tryz.ntmps91, by kernel_rfl, ⟨fun f => imp.contains f, false, fun _ => false, false⟩, by kernel_rfl⟩⟩
def c150 : C :=
  (.seq (.reg [⟨(some 4), none, .mv (k (.str []))⟩, ⟨(some 5), none, .mv (Ki 0)⟩])
  (.seq (.reg [⟨(some 6), none, .mv (k .nils)⟩])
  (.seq (.seq (.reg [Im 9 1, ⟨(some 10), none, .bin .add (t 9) (Ki 1)⟩, Im 7 10])
  (.block 0
  (.loop
  (.seq (.seq (.reg [Im 11 7, Im 12 0, ⟨(some 13), none, .lens (t 12)⟩, ⟨(some 14), none, .bin .lss (t 11) (t 13)⟩])
  (.cond (t 14)
  .skip
  (.exit 0)))
  (.seq (.block 1
  (.seq (.reg [Im 17 0, Im 18 7, ⟨(some 19), none, .idxs (t 17) (t 18)⟩, Im 8 19])
  (.seq (.block 2
  (.seq (.reg [Im 21 8, ⟨(some 22), none, .bin .eql (t 21) (k (.int .u8 34))⟩, Im 20 22])
  (.cond (t 20)
  (.seq (.reg [Im 23 6, ⟨(some 24), none, .b2s (t 23)⟩, Im 25 7, ⟨(some 26), none, .bin .add (t 25) (Ki 1)⟩, Im 27 1, ⟨(some 28), none, .bin .sub (t 26) (t 27)⟩, Im 4 24, Im 5 28])
  .ret)
  (.seq (.reg [Im 30 8, ⟨(some 31), none, .bin .eql (t 30) (k (.int .u8 92))⟩, Im 29 31])
  (.cond (t 29)
  (.seq (.reg [Im 32 7, ⟨(some 33), none, .bin .add (t 32) (Ki 1)⟩, Im 7 33])
  (.seq (.seq (.reg [Im 34 7, Im 35 0, ⟨(some 36), none, .lens (t 35)⟩, ⟨(some 37), none, .bin .eql (t 34) (t 36)⟩, Im 38 37, Jm 39 38 false 0, Jm 40 38 false 7, ⟨(some 41), (some (38, false)), .idxs (t 39) (t 40)⟩, ⟨(some 42), (some (38, false)), .bin .neq (t 41) (k (.int .u8 34))⟩, Jm 43 38 false 42, Jm 44 43 true 0, Jm 45 43 true 7, ⟨(some 46), (some (43, true)), .idxs (t 44) (t 45)⟩, ⟨(some 47), (some (43, true)), .bin .neq (t 46) (k (.int .u8 92))⟩, ⟨(some 48), (some (38, false)), .pick (t 43) (t 47) (k (.bool false))⟩, ⟨(some 49), none, .pick (t 38) (k (.bool true)) (t 48)⟩])
  (.cond (t 49)
  (.seq (.reg [⟨(some 4), none, .mv (k (.str []))⟩, ⟨(some 5), none, .mv (Ki 0)⟩])
  .ret)
  .skip))
  (.reg [Im 50 0, Im 51 7, ⟨(some 52), none, .idxs (t 50) (t 51)⟩, Im 8 52])))
  (.seq (.reg [Im 54 8, ⟨(some 55), none, .bin .lss (t 54) (k (.int .u8 32))⟩, Im 56 55, Jm 57 56 false 8, ⟨(some 58), (some (56, false)), .bin .gtr (t 57) (k (.int .u8 126))⟩, ⟨(some 59), none, .pick (t 56) (k (.bool true)) (t 58)⟩, Im 53 59])
  (.cond (t 53)
  (.seq (.reg [⟨(some 4), none, .mv (k (.str []))⟩, ⟨(some 5), none, .mv (Ki 0)⟩])
  .ret)
  .skip)))))))
  (.seq (.reg [Im 60 6, Im 61 8, ⟨(some 62), none, .bsl 1 [(t 61)]⟩, ⟨(some 63), none, .app false 1 1 (t 60) (t 62)⟩, Im 6 63])
  (.seq (.reg [Im 64 6, Iz 65 64, ⟨(some 66), none, .bin .gtr (t 65) (Ki 64)⟩])
  (.cond (t 66)
  (.seq (.reg [⟨(some 4), none, .mv (k (.str []))⟩, ⟨(some 5), none, .mv (Ki 0)⟩])
  .ret)
  .skip))))))
  (.reg [Im 15 7, ⟨(some 16), none, .bin .add (t 15) (Ki 1)⟩, Im 7 16]))))))
  (.seq (.reg [⟨(some 4), none, .mv (k (.str []))⟩, ⟨(some 5), none, .mv (Ki 0)⟩])
  .ret))))
theorem fn150 : Fn Go.Proofs.Tryz.prog 150 67 [.inl 4, .inl 5] c150 :=
  ⟨⟨_, _, Go.Proofs.Tryz.func150, rfl, by kernel_rfl, Go.Proofs.Tryz.ntmps150, by kernel_rfl, ⟨fun f => imp.contains f, false, fun _ => false, false⟩, by kernel_rfl⟩⟩
def c166 : C :=
  (.seq (.reg [⟨(some 1), none, .box (t 0)⟩, ⟨(some 2), none, .mv (k (.bool false))⟩])
  (.seq (.seq (.reg [If 3 0 1, Il 4 3])
  (.block 0
  (.seq (.reg [⟨(some 6), none, .bin .eql (t 4) (Ki 1)⟩, Im 5 6])
  (.cond (t 5)
  (.seq (.draw 0 [(If 7 2 1, []), (Il 8 7, []), (⟨(some 9), none, .bin .eql (t 8) (Ki 0)⟩, []), (Im 10 9, []), (Jf 11 10 true 1 1, []), (Jl 12 10 true 11, []), (⟨(some 13), (some (10, true)), .lens (t 12)⟩, []), (⟨(some 14), (some (10, true)), .bin .geq (t 13) (Ki 1)⟩, []), (⟨(some 15), none, .pick (t 10) (t 14) (k (.bool false))⟩, []), (Im 16 15, []), (Jf 17 16 true 1 1, []), (Jl 18 16 true 17, []), (⟨(some 19), (some (16, true)), .lens (t 18)⟩, []), (⟨(some 20), (some (16, true)), .bin .leq (t 19) (Ki 64)⟩, []), (⟨(some 21), none, .pick (t 16) (t 20) (k (.bool false))⟩, []), (Im 22 21, []), (Jf 23 22 true 1 1, []), (Jl 24 22 true 23, []), (⟨(some 25), (some (22, true)), .idxs (t 24) (Ki 0)⟩, []), (⟨(some 26), (some (22, true)), .bin .geq (t 25) (k (.int .u8 97))⟩, []), (⟨(some 27), none, .pick (t 22) (t 26) (k (.bool false))⟩, []), (Im 28 27, []), (Jf 29 28 true 1 1, []), (Jl 30 28 true 29, []), (⟨(some 31), (some (28, true)), .idxs (t 30) (Ki 0)⟩, []), (⟨(some 32), (some (28, true)), .bin .leq (t 31) (k (.int .u8 122))⟩, []), (⟨(some 33), none, .pick (t 28) (t 32) (k (.bool false))⟩, []), (Im 34 33, []), (Jf 35 34 true 1 1, []), (Jl 36 34 true 35, []), (⟨(some 37), (some (34, true)), .pcall (k (.fn 144 [] [])) [(t 36), (Ki 0), (k (.fn 199 [] []))]⟩, []), (Jf 38 34 true 1 1, []), (Jl 39 34 true 38, []), (⟨(some 40), (some (34, true)), .lens (t 39)⟩, []), (⟨(some 41), (some (34, true)), .bin .eql (t 37) (t 40)⟩, []), (⟨(some 42), none, .pick (t 34) (t 41) (k (.bool false))⟩, []), (Im 2 42, [])])
  .ret)
  (.seq (.reg [⟨(some 44), none, .bin .eql (t 4) (Ki 2)⟩, Im 43 44])
  (.cond (t 43)
  (.seq (.reg [If 45 1 1, Il 46 45, ⟨(some 47), none, .bin .eql (t 46) (k (.str []))⟩, Im 48 47, Jf 49 48 true 2 1, Jl 50 48 true 49, ⟨(some 51), (some (48, true)), .bin .geq (t 50) (Ki 0)⟩, ⟨(some 52), none, .pick (t 48) (t 51) (k (.bool false))⟩, Im 2 52])
  .ret)
  (.seq (.reg [⟨(some 54), none, .bin .eql (t 4) (Ki 4)⟩, Im 53 54])
  (.cond (t 53)
  (.seq (.reg [If 55 1 1, Il 56 55, ⟨(some 57), none, .bin .eql (t 56) (k (.str []))⟩, Im 58 57, Jf 59 58 true 2 1, Jl 60 58 true 59, ⟨(some 61), (some (58, true)), .bin .geq (t 60) (Ki 0)⟩, ⟨(some 62), none, .pick (t 58) (t 61) (k (.bool false))⟩, Im 63 62, Jf 64 63 true 2 1, Jl 65 63 true 64, ⟨(some 66), (some (63, true)), .bin .leq (t 65) (Ki 1099511627776)⟩, ⟨(some 67), none, .pick (t 63) (t 66) (k (.bool false))⟩, Im 2 67])
  .ret)
  (.seq (.reg [⟨(some 69), none, .bin .eql (t 4) (Ki 3)⟩, Im 68 69])
  (.cond (t 68)
  (.seq (.draw 0 [(If 70 2 1, []), (Il 71 70, []), (⟨(some 72), none, .bin .eql (t 71) (Ki 0)⟩, []), (Im 73 72, []), (Jf 74 73 true 1 1, []), (Jl 75 73 true 74, []), (⟨(some 76), (some (73, true)), .lens (t 75)⟩, []), (⟨(some 77), (some (73, true)), .bin .leq (t 76) (Ki 64)⟩, []), (⟨(some 78), none, .pick (t 73) (t 77) (k (.bool false))⟩, []), (Im 79 78, []), (Jf 80 79 true 1 1, []), (Jl 81 79 true 80, []), (⟨(some 82), (some (79, true)), .pcall (k (.fn 144 [] [])) [(t 81), (Ki 0), (k (.fn 200 [] []))]⟩, []), (Jf 83 79 true 1 1, []), (Jl 84 79 true 83, []), (⟨(some 85), (some (79, true)), .lens (t 84)⟩, []), (⟨(some 86), (some (79, true)), .bin .eql (t 82) (t 85)⟩, []), (⟨(some 87), none, .pick (t 79) (t 86) (k (.bool false))⟩, []), (Im 2 87, [])])
  .ret)
  (.seq (.reg [⟨(some 89), none, .bin .eql (t 4) (Ki 5)⟩, Im 88 89])
  (.cond (t 88)
  (.seq (.draw 0 [(If 90 2 1, []), (Il 91 90, []), (⟨(some 92), none, .bin .eql (t 91) (Ki 0)⟩, []), (Im 93 92, []), (⟨(some 94), (some (93, true)), .pcall (k (.fn 151 [] [])) []⟩, []), (Jf 95 93 true 1 1, []), (Jl 96 93 true 95, []), (⟨(some 97), (some (93, true)), .pcall (k (.fn 47 [] [])) [(t 94), (t 96)]⟩, []), (⟨(some 98), none, .pick (t 93) (t 97) (k (.bool false))⟩, []), (Im 2 98, [])])
  .ret)
  .skip))))))))))))
  (.seq (.reg [⟨(some 2), none, .mv (k (.bool false))⟩])
  .ret)))
theorem fn166 : Fn Go.Proofs.Tryz.prog 166 99 [.inl 2] c166 :=
  ⟨⟨_, _, Go.Proofs.Tryz.func166, rfl, by kernel_rfl, Go.Proofs.Tryz.ntmps166, by kernel_rfl, ⟨fun f => imp.contains f, false, fun _ => false, false⟩, by kernel_rfl⟩⟩
def c242 : C :=
  (.seq (.reg [⟨(some 2), none, .alloc [(.int .i64 0), (.int .i64 0), (.str []), .nils]⟩])
  (.seq (.reg [Im 3 0, ⟨(some 4), none, .build [(.int .i64 0), (.int .i64 0), (.str []), .nils] [(0, 1, (Ki 2)), (1, 1, (t 3))]⟩, Is 4 2 4])
  .ret))
theorem fn242 : Fn Go.Proofs.Tryz.prog 242 5 [.inr (2, true, 4)] c242 :=
  ⟨⟨_, _, Go.Proofs.Tryz.func242, rfl, by kernel_rfl, Go.Proofs.Tryz.ntmps242, by kernel_rfl, ⟨fun f => imp.contains f, false, fun _ => false, false⟩, by kernel_rfl⟩⟩
def c253 : C :=
  (.seq (.reg [Im 10 1, ⟨(some 11), none, .bin .add (t 10) (Ki 1)⟩, Im 8 11])
  (.block 0
  (.loop
  (.seq (.seq (.reg [Im 12 8, Im 13 2, ⟨(some 14), none, .bin .lss (t 12) (t 13)⟩])
  (.cond (t 14)
  .skip
  (.exit 0)))
  (.seq (.block 1
  (.seq (.reg [Im 17 8, Im 9 17])
  (.block 2
  (.loop
  (.seq (.seq (.draw 0 [(Im 18 9, []), (Im 19 1, []), (⟨(some 20), none, .bin .gtr (t 18) (t 19)⟩, []), (Im 21 20, []), (Jm 22 21 true 3, []), (Jm 23 21 true 0, []), (Jm 24 21 true 9, []), (⟨(some 25), (some (21, true)), .iaddr 4 (t 23) (t 24)⟩, []), (⟨(some 26), (some (21, true)), .load true 4 (t 25)⟩, []), (Jm 27 21 true 0, []), (Jm 28 21 true 9, []), (⟨(some 29), (some (21, true)), .bin .sub (t 28) (Ki 1)⟩, []), (⟨(some 30), (some (21, true)), .iaddr 4 (t 27) (t 29)⟩, []), (⟨(some 31), (some (21, true)), .load true 4 (t 30)⟩, []), (⟨(some 32), (some (21, true)), .pcall (t 22) [(t 26), (t 31)]⟩, []), (⟨(some 33), (some (21, true)), .bin .lss (t 32) (Ki 0)⟩, []), (⟨(some 34), none, .pick (t 21) (t 33) (k (.bool false))⟩, [])])
  (.cond (t 34)
  .skip
  (.exit 2)))
  (.seq (.block 3
  (.draw 0 [(Im 37 0, []), (Im 38 9, []), (Im 39 0, []), (Im 40 9, []), (⟨(some 41), none, .bin .sub (t 40) (Ki 1)⟩, []), (Im 42 0, []), (Im 43 9, []), (⟨(some 44), none, .bin .sub (t 43) (Ki 1)⟩, []), (⟨(some 45), none, .iaddr 4 (t 42) (t 44)⟩, []), (Ia 46 4 45, []), (Im 47 0, []), (Im 48 9, []), (⟨(some 49), none, .iaddr 4 (t 47) (t 48)⟩, []), (Ia 50 4 49, []), (⟨(some 51), none, .iaddr 4 (t 37) (t 38)⟩, []), (Is 4 51 46, []), (⟨(some 52), none, .iaddr 4 (t 39) (t 41)⟩, []), (Is 4 52 50, [])]))
  (.reg [Im 35 9, ⟨(some 36), none, .bin .sub (t 35) (Ki 1)⟩, Im 9 36])))))))
  (.reg [Im 15 8, ⟨(some 16), none, .bin .add (t 15) (Ki 1)⟩, Im 8 16]))))))
theorem fn253 : Fn Go.Proofs.Tryz.prog 253 53 [] c253 :=
  ⟨⟨_, _, Go.Proofs.Tryz.func253, rfl, by kernel_rfl, Go.Proofs.Tryz.ntmps253, by kernel_rfl, ⟨fun f => imp.contains f, false, fun _ => false, false⟩, by kernel_rfl⟩⟩
end GP
namespace GP
open Go Go.Proofs
open Rd O
set_option maxRecDepth 100000
def c48 : C :=
  (.seq (.reg [⟨(some 0), none, .mv (k .nils)⟩])
  (.seq (.reg [⟨(some 1), none, .bsl 1 [(k (.str [102, 97, 99, 116])), (k (.str [116, 114, 117, 116, 104])), (k (.str [110, 117, 109, 98, 101, 114])), (k (.str [116, 101, 120, 116])), (k (.str [116, 105, 109, 101])), (k (.str [98, 97, 103])), (k (.str [117, 115, 101])), (k (.str [112, 111, 108, 105, 99, 121])), (k (.str [98, 121])), (k (.str [102, 111, 114])), (k (.str [112, 101, 114, 109, 105, 116])), (k (.str [100, 101, 110, 121])), (k (.str [105, 102])), (k (.str [100, 117, 116, 121])), (k (.str [97, 100, 118, 105, 99, 101])), (k (.str [116, 114, 117, 101])), (k (.str [102, 97, 108, 115, 101])), (k (.str [110, 111, 119])), (k (.str [111, 114])), (k (.str [97, 110, 100])), (k (.str [110, 111, 116])), (k (.str [105, 110])), (k (.str [104, 97, 115])), (k (.str [114, 111, 108, 101])), (k (.str [115, 105, 122, 101])), (k (.str [115, 117, 98, 106, 101, 99, 116])), (k (.str [114, 101, 115, 111, 117, 114, 99, 101])), (k (.str [97, 99, 116, 105, 111, 110])), (k (.str [101, 110, 118]))]⟩, Im 0 1])
  .ret))
theorem fn48 : Fn Go.Proofs.Tryz.prog 48 2 [.inl 0] c48 :=
  ⟨⟨_, _, Go.Proofs.Tryz.func48, rfl, by kernel_rfl, Go.Proofs.Tryz.ntmps48, by kernel_rfl, ⟨fun f => imp.contains f, false, fun _ => false, false⟩, by kernel_rfl⟩⟩
def c64 : C :=
  (.seq (.reg [⟨(some 2), none, .box (t 0)⟩, ⟨(some 3), none, .box (t 1)⟩, ⟨(some 4), none, .mv (Ki 0)⟩])
  (.seq (.seq (.draw 0 [(If 6 0 2, []), (Il 7 6, []), (If 8 0 3, []), (Il 9 8, []), (Ip 10 113 [(t 7), (t 9)], []), (If 11 1 2, []), (Il 12 11, []), (If 13 1 3, []), (Il 14 13, []), (Ip 15 114 [(t 12), (t 14)], []), (If 16 2 2, []), (Il 17 16, []), (If 18 2 3, []), (Il 19 18, []), (Ip 20 115 [(t 17), (t 19)], []), (⟨(some 21), none, .bslq 1 [(t 10), (t 15), (t 20)]⟩, []), (Ip 22 112 [(t 21)], []), (Im 5 22, [])])
  (.seq (.reg [Im 23 5, ⟨(some 24), none, .bin .neq (t 23) (Ki 0)⟩])
  (.cond (t 24)
  (.seq (.reg [Im 25 5, Im 4 25])
  .ret)
  .skip)))
  (.seq (.reg [If 26 3 2, Il 27 26, If 28 3 3, Il 29 28, Ip 30 116 [(t 27), (t 29), (k (.fn 64 [] []))], Im 4 30])
  .ret)))
theorem fn64 : Fn Go.Proofs.Tryz.prog 64 31 [.inl 4] c64 :=
  ⟨⟨_, _, Go.Proofs.Tryz.func64, rfl, by kernel_rfl, Go.Proofs.Tryz.ntmps64, by kernel_rfl, ⟨fun f => imp.contains f, false, fun _ => false, false⟩, by kernel_rfl⟩⟩
def c69 : C :=
  (.seq (.reg [⟨(some 4), none, .mv (k (.bool false))⟩])
  (.seq (.seq (.reg [Im 5 0, Im 6 1, Ip 7 117 [(t 5), (t 6)], ⟨(some 8), none, .un .not (t 7)⟩])
  (.cond (t 8)
  (.seq (.reg [⟨(some 4), none, .mv (k (.bool false))⟩])
  .ret)
  .skip))
  (.seq (.reg [Im 9 0, In 10 9, If 11 1 10, Il 12 11, ⟨(some 13), none, .bin .add (t 12) (Ki 1)⟩, In 14 9, If 15 1 14, Is 1 15 13])
  (.seq (.reg [⟨(some 4), none, .mv (k (.bool true))⟩])
  .ret))))
theorem fn69 : Fn Go.Proofs.Tryz.prog 69 16 [.inl 4] c69 :=
  ⟨⟨_, _, Go.Proofs.Tryz.func69, rfl, by kernel_rfl, Go.Proofs.Tryz.ntmps69, by kernel_rfl, ⟨fun f => imp.contains f, false, fun _ => false, false⟩, by kernel_rfl⟩⟩
def c103 : C :=
  (.seq (.reg [⟨(some 6), none, .alloc [(.str []), (.int .i64 0), (.int .i64 0), (.str []), .nils, (.str []), (.str []), .nils]⟩])
  (.seq (.reg [Im 11 1, ⟨(some 12), none, .call (t 11) []⟩, ⟨(some 7), none, .alloc [(.str []), (.int .i64 0), (.int .i64 0), (.str []), .nils, (.str []), (.str []), .nils]⟩, Is 8 7 12])
  (.seq (.block 0
  (.loop
  (.seq (.seq (.reg [Im 13 0, In 14 13, If 15 2 14, Il 16 15, ⟨(some 17), none, .bin .eql (t 16) (Ki 0)⟩])
  (.cond (t 17)
  .skip
  (.exit 0)))
  (.block 1
  (.seq (.reg [⟨(some 8), none, .mv (k (.str []))⟩])
  (.seq (.seq (.reg [Im 18 2, Iz 19 18, ⟨(some 20), none, .mv (Ki 0)⟩])
  (.block 2
  (.loop
  (.seq (.reg [⟨(some 21), none, .bin .lss (t 20) (t 19)⟩])
  (.seq (.cond (t 21)
  .skip
  (.exit 2))
  (.seq (.block 3
  (.seq (.reg [⟨(some 22), none, .iaddr 1 (t 18) (t 20)⟩, Il 23 22, Im 10 23])
  (.seq (.reg [Im 24 8, ⟨(some 25), none, .bin .eql (t 24) (k (.str []))⟩, Im 26 25, Jm 27 26 true 0, Jm 28 26 true 10, ⟨(some 29), (some (26, true)), .call (k (.fn 69 [] [])) [(t 27), (t 28)]⟩, ⟨(some 30), none, .pick (t 26) (t 29) (k (.bool false))⟩])
  (.cond (t 30)
  (.reg [Im 31 10, Im 8 31])
  .skip))))
  (.reg [⟨(some 32), none, .bin .add (t 20) (Ki 1)⟩, Im 20 32])))))))
  (.seq (.seq (.reg [Im 33 8, ⟨(some 34), none, .bin .eql (t 33) (k (.str []))⟩])
  (.cond (t 34)
  (.exit 0)
  .skip))
  (.draw 0 [(Im 35 8, []), (Ia 36 8 7, []), (Im 37 1, []), (⟨(some 38), none, .call (t 37) []⟩, [Ia 36 8 7]), (Ip 39 169 [(t 35), (t 36), (t 38)], []), (Is 8 7 39, [])]))))))))
  (.seq (.reg [Ia 40 8 7, Is 8 6 40])
  .ret))))
theorem fn103 : Fn Go.Proofs.Tryz.prog 103 41 [.inr (6, true, 8)] c103 :=
  ⟨⟨_, _, Go.Proofs.Tryz.func103, rfl, by kernel_rfl, Go.Proofs.Tryz.ntmps103, by kernel_rfl, ⟨fun f => imp.contains f, true, fun _ => false, false⟩, by kernel_rfl⟩⟩
def c113 : C :=
  (.seq (.reg [⟨(some 4), none, .mv (Ki 0)⟩])
  (.seq (.reg [Im 7 0, Ip 8 174 [(t 7)], Im 5 8])
  (.seq (.reg [Im 9 1, Ip 10 174 [(t 9)], Im 6 10])
  (.seq (.seq (.reg [Im 11 5])
  (.cond (t 11)
  (.seq (.seq (.reg [Im 12 6])
  (.cond (t 12)
  (.seq (.reg [⟨(some 4), none, .mv (Ki 0)⟩])
  .ret)
  .skip))
  (.seq (.reg [⟨(some 4), none, .mv (k (.int .i64 (-1)))⟩])
  .ret))
  .skip))
  (.seq (.seq (.reg [Im 13 6])
  (.cond (t 13)
  (.seq (.reg [⟨(some 4), none, .mv (Ki 1)⟩])
  .ret)
  .skip))
  (.seq (.seq (.reg [Im 14 0, Im 15 1, ⟨(some 16), none, .bin .lss (t 14) (t 15)⟩])
  (.cond (t 16)
  (.seq (.reg [⟨(some 4), none, .mv (k (.int .i64 (-1)))⟩])
  .ret)
  .skip))
  (.seq (.seq (.reg [Im 17 0, Im 18 1, ⟨(some 19), none, .bin .gtr (t 17) (t 18)⟩])
  (.cond (t 19)
  (.seq (.reg [⟨(some 4), none, .mv (Ki 1)⟩])
  .ret)
  .skip))
  (.seq (.reg [⟨(some 4), none, .mv (Ki 0)⟩])
  .ret))))))))
theorem fn113 : Fn Go.Proofs.Tryz.prog 113 20 [.inl 4] c113 :=
  ⟨⟨_, _, Go.Proofs.Tryz.func113, rfl, by kernel_rfl, Go.Proofs.Tryz.ntmps113, by kernel_rfl, ⟨fun f => imp.contains f, false, fun _ => false, false⟩, by kernel_rfl⟩⟩
def c145 : C :=
  (.seq (.reg [⟨(some 2), none, .mv (k (.bool false))⟩])
  (.seq (.reg [Im 3 0, ⟨(some 4), none, .bin .neq (t 3) (k (.int .u8 10))⟩, Im 2 4])
  .ret))
theorem fn145 : Fn Go.Proofs.Tryz.prog 145 5 [.inl 2] c145 :=
  ⟨⟨_, _, Go.Proofs.Tryz.func145, rfl, by kernel_rfl, Go.Proofs.Tryz.ntmps145, by kernel_rfl, ⟨fun f => imp.contains f, false, fun _ => false, false⟩, by kernel_rfl⟩⟩
def c146 : C :=
  (.seq (.reg [⟨(some 2), none, .mv (k (.bool false))⟩])
  (.seq (.reg [Im 3 0, Ip 4 147 [(t 3)], Im 5 4, Jm 6 5 false 0, ⟨(some 7), (some (5, false)), .pcall (k (.fn 148 [] [])) [(t 6)]⟩, ⟨(some 8), none, .pick (t 5) (k (.bool true)) (t 7)⟩, Im 2 8])
  .ret))
theorem fn146 : Fn Go.Proofs.Tryz.prog 146 9 [.inl 2] c146 :=
  ⟨⟨_, _, Go.Proofs.Tryz.func146, rfl, by kernel_rfl, Go.Proofs.Tryz.ntmps146, by kernel_rfl, ⟨fun f => imp.contains f, false, fun _ => false, false⟩, by kernel_rfl⟩⟩
def c149 : C :=
  (.seq (.reg [⟨(some 6), none, .mv (Ki 0)⟩, ⟨(some 7), none, .mv (Ki 0)⟩])
  (.seq (.reg [Im 11 0, Im 12 1, Ip 13 144 [(t 11), (t 12), (k (.fn 148 [] []))], Im 8 13])
  (.seq (.seq (.reg [Im 14 8, ⟨(some 15), none, .bin .lss (t 14) (Ki 1)⟩, Im 16 15, Jm 17 16 false 8, ⟨(some 18), (some (16, false)), .bin .gtr (t 17) (Ki 19)⟩, ⟨(some 19), none, .pick (t 16) (k (.bool true)) (t 18)⟩, Im 20 19, Jm 21 20 false 1, Jm 22 20 false 8, ⟨(some 23), (some (20, false)), .bin .add (t 21) (t 22)⟩, Jm 24 20 false 0, ⟨(some 25), (some (20, false)), .lens (t 24)⟩, ⟨(some 26), (some (20, false)), .bin .lss (t 23) (t 25)⟩, Jm 27 20 false 26, Jm 28 27 true 0, Jm 29 27 true 1, Jm 30 27 true 8, ⟨(some 31), (some (27, true)), .bin .add (t 29) (t 30)⟩, ⟨(some 32), (some (27, true)), .idxs (t 28) (t 31)⟩, ⟨(some 33), (some (27, true)), .pcall (k (.fn 147 [] [])) [(t 32)]⟩, ⟨(some 34), (some (20, false)), .pick (t 27) (t 33) (k (.bool false))⟩, ⟨(some 35), none, .pick (t 20) (k (.bool true)) (t 34)⟩])
  (.cond (t 35)
  (.seq (.reg [⟨(some 6), none, .mv (Ki 0)⟩, ⟨(some 7), none, .mv (Ki 0)⟩])
  .ret)
  .skip))
  (.seq (.reg [Im 37 0, Im 38 1, Im 39 1, Im 40 8, ⟨(some 41), none, .bin .add (t 39) (t 40)⟩, ⟨(some 42), none, .subs (t 37) (some (t 38)) (some (t 41))⟩, Ip 43 185 [(t 42), (Ki 10), (Ki 64)], Im 36 43, Ie 44 0 36, Ie 45 1 36, Im 9 44, Im 10 45])
  (.seq (.seq (.reg [Im 46 10, ⟨(some 47), none, .eq1 .ifc true (t 46) (k .nili)⟩, Im 48 47, Jm 49 48 false 9, Jm 50 48 false 2, ⟨(some 51), (some (48, false)), .bin .gtr (t 49) (t 50)⟩, ⟨(some 52), none, .pick (t 48) (k (.bool true)) (t 51)⟩])
  (.cond (t 52)
  (.seq (.reg [⟨(some 6), none, .mv (Ki 0)⟩, ⟨(some 7), none, .mv (Ki 0)⟩])
  .ret)
  .skip))
  (.seq (.reg [Im 53 9, Im 54 8, Im 6 53, Im 7 54])
  .ret))))))
theorem fn149 : Fn Go.Proofs.Tryz.prog 149 55 [.inl 6, .inl 7] c149 :=
  ⟨⟨_, _, Go.Proofs.Tryz.func149, rfl, by kernel_rfl, Go.Proofs.Tryz.ntmps149, by kernel_rfl, ⟨fun f => imp.contains f, false, fun _ => false, false⟩, by kernel_rfl⟩⟩
def c217 : C :=
  (.seq (.reg [⟨(some 2), none, .alloc [(.str []), (.int .i64 0), (.int .i64 0), (.str []), .nils, (.str []), (.str []), .nils]⟩])
  (.seq (.reg [Im 3 0, Im 4 0, ⟨(some 5), none, .mkfn 228 [(t 4)] []⟩, ⟨(some 6), none, .bsl 1 [(k (.str [43])), (k (.str [45]))]⟩, Ic 7 103 [(t 3), (t 5), (t 6)], Is 8 2 7])
  .ret))
theorem fn217 : Fn Go.Proofs.Tryz.prog 217 8 [.inr (2, true, 8)] c217 :=
  ⟨⟨_, _, Go.Proofs.Tryz.func217, rfl, by kernel_rfl, Go.Proofs.Tryz.ntmps217, by kernel_rfl, ⟨fun f => imp.contains f, false, fun _ => false, false⟩, by kernel_rfl⟩⟩
def c239 : C :=
  (.seq (.reg [⟨(some 2), none, .alloc [(.int .i64 0), (.int .i64 0), (.str []), .nils]⟩, ⟨(some 3), none, .mv (k (.bool false))⟩])
  (.seq (.reg [Im 5 0, Ip 6 177 [(t 5)], ⟨(some 4), none, .alloc [(.int .i64 0), (.str []), (.int .i64 0)]⟩, Is 3 4 6])
  (.seq (.block 0
  (.seq (.reg [If 8 0 4, Il 9 8, ⟨(some 10), none, .bin .eql (t 9) (Ki 2)⟩, Im 7 10])
  (.cond (t 7)
  (.seq (.reg [Im 11 0, In 12 11, If 13 1 12, Il 14 13, ⟨(some 15), none, .bin .add (t 14) (Ki 1)⟩, In 16 11, If 17 1 16, Is 1 17 15])
  (.seq (.reg [If 18 2 4, Il 19 18, Ip 20 242 [(t 19)], Is 4 2 20, ⟨(some 3), none, .mv (k (.bool true))⟩])
  .ret))
  (.seq (.reg [If 22 0 4, Il 23 22, ⟨(some 24), none, .bin .eql (t 23) (Ki 3)⟩, Im 21 24])
  (.cond (t 21)
  (.seq (.reg [Im 25 0, In 26 25, If 27 1 26, Il 28 27, ⟨(some 29), none, .bin .add (t 28) (Ki 1)⟩, In 30 25, If 31 1 30, Is 1 31 29])
  (.seq (.reg [If 32 1 4, Il 33 32, Ip 34 243 [(t 33)], Is 4 2 34, ⟨(some 3), none, .mv (k (.bool true))⟩])
  .ret))
  (.seq (.reg [If 36 0 4, Il 37 36, ⟨(some 38), none, .bin .eql (t 37) (Ki 4)⟩, Im 35 38])
  (.cond (t 35)
  (.seq (.reg [Im 39 0, In 40 39, If 41 1 40, Il 42 41, ⟨(some 43), none, .bin .add (t 42) (Ki 1)⟩, In 44 39, If 45 1 44, Is 1 45 43])
  (.seq (.reg [If 46 2 4, Il 47 46, ⟨(some 48), none, .build [(.int .i64 0), (.int .i64 0), (.str []), .nils] [(0, 1, (Ki 4)), (1, 1, (t 47))]⟩, Is 4 2 48, ⟨(some 3), none, .mv (k (.bool true))⟩])
  .ret))
  (.seq (.reg [Im 50 0, Ip 51 117 [(t 50), (k (.str [116, 114, 117, 101]))], Im 52 51, Jm 53 52 false 0, ⟨(some 54), (some (52, false)), .pcall (k (.fn 117 [] [])) [(t 53), (k (.str [102, 97, 108, 115, 101]))]⟩, ⟨(some 55), none, .pick (t 52) (k (.bool true)) (t 54)⟩, Im 49 55])
  (.cond (t 49)
  (.seq (.reg [Im 56 0, In 57 56, If 58 1 57, Il 59 58, ⟨(some 60), none, .bin .add (t 59) (Ki 1)⟩, In 61 56, If 62 1 61, Is 1 62 60])
  (.seq (.reg [If 63 1 4, Il 64 63, ⟨(some 65), none, .bin .eql (t 64) (k (.str [116, 114, 117, 101]))⟩, Ip 66 244 [(t 65)], Is 4 2 66, ⟨(some 3), none, .mv (k (.bool true))⟩])
  .ret))
  .skip)))))))))
  (.seq (.reg [⟨(some 67), none, .build [(.int .i64 0), (.int .i64 0), (.str []), .nils] []⟩, Is 4 2 67, ⟨(some 3), none, .mv (k (.bool false))⟩])
  .ret))))
theorem fn239 : Fn Go.Proofs.Tryz.prog 239 68 [.inr (2, true, 4), .inl 3] c239 :=
  ⟨⟨_, _, Go.Proofs.Tryz.func239, rfl, by kernel_rfl, Go.Proofs.Tryz.ntmps239, by kernel_rfl, ⟨fun f => imp.contains f, false, fun _ => false, false⟩, by kernel_rfl⟩⟩
def c251 : C :=
  (.seq (.reg [⟨(some 10), none, .mv (k (.bool true))⟩])
  (.seq (.reg [⟨(some 11), none, .mv (k (.bool true))⟩])
  (.block 0
  (.loop
  (.block 1
  (.seq (.reg [Im 21 2, Im 22 1, ⟨(some 23), none, .bin .sub (t 21) (t 22)⟩, Im 12 23])
  (.seq (.seq (.reg [Im 24 12, ⟨(some 25), none, .bin .leq (t 24) (Ki 12)⟩])
  (.cond (t 25)
  (.seq (.reg [Im 26 0, Im 27 1, Im 28 2, Im 29 4, Ip 30 253 [(t 26), (t 27), (t 28), (t 29)]])
  .ret)
  .skip))
  (.seq (.seq (.reg [Im 31 3, ⟨(some 32), none, .bin .eql (t 31) (Ki 0)⟩])
  (.cond (t 32)
  (.seq (.reg [Im 33 0, Im 34 1, Im 35 2, Im 36 4, Ip 37 254 [(t 33), (t 34), (t 35), (t 36)]])
  .ret)
  .skip))
  (.seq (.seq (.reg [Im 38 10, ⟨(some 39), none, .un .not (t 38)⟩])
  (.cond (t 39)
  (.seq (.reg [Im 40 0, Im 41 1, Im 42 2, Im 43 4, Ip 44 255 [(t 40), (t 41), (t 42), (t 43)]])
  (.reg [Im 45 3, ⟨(some 46), none, .bin .sub (t 45) (Ki 1)⟩, Im 3 46]))
  .skip))
  (.seq (.reg [Im 48 0, Im 49 1, Im 50 2, Im 51 4, Ip 52 256 [(t 48), (t 49), (t 50), (t 51)], Im 47 52, Ie 53 0 47, Ie 54 1 47, Im 13 53, Im 14 54])
  (.seq (.seq (.reg [Im 55 14, ⟨(some 56), none, .bin .eql (t 55) (Ki 2)⟩])
  (.cond (t 56)
  (.seq (.reg [Im 57 0, Im 58 1, Im 59 2, Im 60 4, Ip 61 257 [(t 57), (t 58), (t 59), (t 60)]])
  (.seq (.reg [Im 62 2, ⟨(some 63), none, .bin .sub (t 62) (Ki 1)⟩, Im 64 13, Im 65 1, ⟨(some 66), none, .bin .sub (t 64) (t 65)⟩, ⟨(some 67), none, .bin .sub (t 63) (t 66)⟩, Im 13 67])
  (.reg [⟨(some 14), none, .mv (Ki 1)⟩])))
  .skip))
  (.seq (.seq (.reg [Im 68 10, Im 69 68, Jm 70 69 true 11, ⟨(some 71), none, .pick (t 69) (t 70) (k (.bool false))⟩, Im 72 71, Jm 73 72 true 14, ⟨(some 74), (some (72, true)), .bin .eql (t 73) (Ki 1)⟩, ⟨(some 75), none, .pick (t 72) (t 74) (k (.bool false))⟩])
  (.cond (t 75)
  (.seq (.reg [Im 76 0, Im 77 1, Im 78 2, Im 79 4, Ip 80 258 [(t 76), (t 77), (t 78), (t 79)]])
  (.cond (t 80)
  .ret
  .skip))
  .skip))
  (.seq (.seq (.draw 0 [(Im 81 1, []), (⟨(some 82), none, .bin .gtr (t 81) (Ki 0)⟩, []), (Im 83 82, []), (Jm 84 83 true 4, []), (Jm 85 83 true 0, []), (Jm 86 83 true 1, []), (⟨(some 87), (some (83, true)), .bin .sub (t 86) (Ki 1)⟩, []), (⟨(some 88), (some (83, true)), .iaddr 4 (t 85) (t 87)⟩, []), (⟨(some 89), (some (83, true)), .load true 4 (t 88)⟩, []), (Jm 90 83 true 0, []), (Jm 91 83 true 13, []), (⟨(some 92), (some (83, true)), .iaddr 4 (t 90) (t 91)⟩, []), (⟨(some 93), (some (83, true)), .load true 4 (t 92)⟩, []), (⟨(some 94), (some (83, true)), .pcall (t 84) [(t 89), (t 93)]⟩, []), (⟨(some 95), (some (83, true)), .bin .lss (t 94) (Ki 0)⟩, []), (⟨(some 96), (some (83, true)), .un .not (t 95)⟩, []), (⟨(some 97), none, .pick (t 83) (t 96) (k (.bool false))⟩, [])])
  (.cond (t 97)
  (.seq (.reg [Im 98 0, Im 99 1, Im 100 2, Im 101 13, Im 102 4, Ip 103 259 [(t 98), (t 99), (t 100), (t 101), (t 102)], Im 15 103])
  (.seq (.reg [Im 104 15, Im 1 104])
  (.exit 1)))
  .skip))
  (.seq (.reg [Im 106 0, Im 107 1, Im 108 2, Im 109 13, Im 110 4, Ip 111 260 [(t 106), (t 107), (t 108), (t 109), (t 110)], Im 105 111, Ie 112 0 105, Ie 113 1 105, Im 16 112, Im 17 113])
  (.seq (.reg [Im 114 17, Im 11 114])
  (.seq (.reg [Im 115 16, Im 116 1, ⟨(some 117), none, .bin .sub (t 115) (t 116)⟩, Im 118 2, Im 119 16, ⟨(some 120), none, .bin .sub (t 118) (t 119)⟩, Im 18 117, Im 19 120])
  (.seq (.reg [Im 121 12, ⟨(some 122), none, .bin .quo (t 121) (Ki 8)⟩, Im 20 122])
  (.seq (.reg [Im 123 18, Im 124 19, ⟨(some 125), none, .bin .lss (t 123) (t 124)⟩])
  (.cond (t 125)
  (.seq (.reg [Im 126 18, Im 127 20, ⟨(some 128), none, .bin .geq (t 126) (t 127)⟩, Im 10 128])
  (.seq (.reg [Im 129 0, Im 130 1, Im 131 16, Im 132 3, Im 133 4, Ip 134 251 [(t 129), (t 130), (t 131), (t 132), (t 133)]])
  (.reg [Im 135 16, ⟨(some 136), none, .bin .add (t 135) (Ki 1)⟩, Im 1 136])))
  (.seq (.reg [Im 137 19, Im 138 20, ⟨(some 139), none, .bin .geq (t 137) (t 138)⟩, Im 10 139])
  (.seq (.reg [Im 140 0, Im 141 16, ⟨(some 142), none, .bin .add (t 141) (Ki 1)⟩, Im 143 2, Im 144 3, Im 145 4, Ip 146 251 [(t 140), (t 142), (t 143), (t 144), (t 145)]])
  (.reg [Im 147 16, Im 2 147]))))))))))))))))))))))
theorem fn251 : Fn Go.Proofs.Tryz.prog 251 148 [] c251 :=
  ⟨⟨_, _, Go.Proofs.Tryz.func251, rfl, by kernel_rfl, Go.Proofs.Tryz.ntmps251, by kernel_rfl, ⟨fun f => imp.contains f, false, fun _ => false, false⟩, by kernel_rfl⟩⟩
end GP
namespace GP
open Go Go.Proofs
open Rd O
set_option maxRecDepth 100000
def c19 : C :=
  (.seq (.reg [⟨(some 2), none, .alloc [(.str []), (.int .i64 0), (.int .i64 0), (.str []), .nils, (.str []), (.str []), .nils]⟩, ⟨(some 3), none, .mv (Ki 0)⟩, ⟨(some 4), none, .mv (Ki 0)⟩])
  (.seq (.seq (.reg [Im 9 0, Iz 10 9, ⟨(some 11), none, .bin .gtr (t 10) (Ki 600)⟩])
  (.cond (t 11)
  (.seq (.reg [⟨(some 12), none, .build [(.str []), (.int .i64 0), (.int .i64 0), (.str []), .nils, (.str []), (.str []), .nils] []⟩, Is 8 2 12, ⟨(some 3), none, .mv (Ki 0)⟩, ⟨(some 4), none, .mv (Ki 13)⟩])
  .ret)
  .skip))
  (.seq (.reg [Im 13 0, ⟨(some 14), none, .build [.nils, (.int .i64 0), (.int .i64 0)] [(0, 1, (t 13))]⟩, ⟨(some 15), none, .box (t 14)⟩, Im 5 15])
  (.seq (.reg [Im 16 5, Ic 17 49 [(t 16)], ⟨(some 6), none, .alloc [(.str []), (.int .i64 0), (.int .i64 0), (.str []), .nils, (.str []), (.str []), .nils]⟩, Is 8 6 17])
  (.seq (.reg [Im 19 5, Ic 20 50 [(t 19)], Im 18 20, Ie 21 0 18, Ie 22 1 18, Im 7 21, Im 8 22])
  (.seq (.block 0
  (.seq (.reg [Im 24 8, ⟨(some 25), none, .bin .neq (t 24) (Ki 0)⟩, Im 23 25])
  (.cond (t 23)
  (.seq (.reg [⟨(some 26), none, .build [(.str []), (.int .i64 0), (.int .i64 0), (.str []), .nils, (.str []), (.str []), .nils] []⟩, Im 27 7, Im 28 8, Is 8 2 26, Im 3 27, Im 4 28])
  .ret)
  (.seq (.reg [Ia 30 8 6, Ip 31 26 [(t 30)], ⟨(some 32), none, .bin .gtr (t 31) (Ki 12)⟩, Im 29 32])
  (.cond (t 29)
  (.seq (.reg [⟨(some 33), none, .build [(.str []), (.int .i64 0), (.int .i64 0), (.str []), .nils, (.str []), (.str []), .nils] []⟩, Is 8 2 33, ⟨(some 3), none, .mv (Ki 0)⟩, ⟨(some 4), none, .mv (Ki 11)⟩])
  .ret)
  .skip)))))
  (.seq (.reg [Ia 34 8 6, Is 8 2 34, ⟨(some 3), none, .mv (Ki 0)⟩, ⟨(some 4), none, .mv (Ki 0)⟩])
  .ret)))))))
theorem fn19 : Fn Go.Proofs.Tryz.prog 19 35 [.inr (2, true, 8), .inl 3, .inl 4] c19 :=
  ⟨⟨_, _, Go.Proofs.Tryz.func19, rfl, by kernel_rfl, Go.Proofs.Tryz.ntmps19, by kernel_rfl, ⟨fun f => imp.contains f, false, fun _ => false, false⟩, by kernel_rfl⟩⟩
def c116 : C :=
  (.seq (.reg [⟨(some 6), none, .mv (Ki 0)⟩])
  (.seq (.seq (.reg [Im 11 0, Iz 12 11, ⟨(some 13), none, .mv (Ki 0)⟩])
  (.block 0
  (.loop
  (.seq (.reg [⟨(some 14), none, .bin .lss (t 13) (t 12)⟩])
  (.seq (.cond (t 14)
  .skip
  (.exit 0))
  (.seq (.block 1
  (.seq (.reg [Im 15 13, ⟨(some 16), none, .iaddr 4 (t 11) (t 13)⟩, Ia 17 4 16, ⟨(some 8), none, .alloc [(.int .i64 0), (.int .i64 0), (.str []), .nils]⟩, Im 7 15, Is 4 8 17])
  (.seq (.seq (.reg [Im 18 7, Im 19 1, Iz 20 19, ⟨(some 21), none, .bin .geq (t 18) (t 20)⟩])
  (.cond (t 21)
  (.seq (.reg [⟨(some 6), none, .mv (Ki 1)⟩])
  .ret)
  .skip))
  (.seq (.reg [Im 22 1, Im 23 7, ⟨(some 24), none, .iaddr 4 (t 22) (t 23)⟩, Ia 25 4 24, ⟨(some 9), none, .alloc [(.int .i64 0), (.int .i64 0), (.str []), .nils]⟩, Is 4 9 25])
  (.seq (.reg [Im 26 2, Ia 27 4 8, Ia 28 4 9, ⟨(some 29), none, .pcall (t 26) [(t 27), (t 28)]⟩, Im 10 29])
  (.seq (.reg [Im 30 10, ⟨(some 31), none, .bin .neq (t 30) (Ki 0)⟩])
  (.cond (t 31)
  (.seq (.reg [Im 32 10, Im 6 32])
  .ret)
  .skip)))))))
  (.reg [⟨(some 33), none, .bin .add (t 13) (Ki 1)⟩, Im 13 33])))))))
  (.seq (.seq (.reg [Im 34 0, Iz 35 34, Im 36 1, Iz 37 36, ⟨(some 38), none, .bin .lss (t 35) (t 37)⟩])
  (.cond (t 38)
  (.seq (.reg [⟨(some 6), none, .mv (k (.int .i64 (-1)))⟩])
  .ret)
  .skip))
  (.seq (.reg [⟨(some 6), none, .mv (Ki 0)⟩])
  .ret))))
theorem fn116 : Fn Go.Proofs.Tryz.prog 116 39 [.inl 6] c116 :=
  ⟨⟨_, _, Go.Proofs.Tryz.func116, rfl, by kernel_rfl, Go.Proofs.Tryz.ntmps116, by kernel_rfl, ⟨fun f => imp.contains f, false, fun _ => false, false⟩, by kernel_rfl⟩⟩
def c129 : C :=
  (.seq (.reg [⟨(some 1), none, .box (t 0)⟩, ⟨(some 2), none, .mv (k (.bool false))⟩])
  (.seq (.seq (.reg [If 5 0 1, Il 6 5, ⟨(some 7), none, .bin .neq (t 6) (Ki 5)⟩])
  (.cond (t 7)
  (.seq (.reg [Ia 8 4 1, Ip 9 179 [(t 8)], Im 2 9])
  .ret)
  .skip))
  (.seq (.seq (.reg [If 10 3 1, Il 11 10, Iz 12 11, ⟨(some 13), none, .mv (Ki 0)⟩])
  (.block 0
  (.loop
  (.seq (.reg [⟨(some 14), none, .bin .lss (t 13) (t 12)⟩])
  (.seq (.cond (t 14)
  .skip
  (.exit 0))
  (.seq (.block 1
  (.seq (.reg [Im 15 13, ⟨(some 16), none, .iaddr 4 (t 11) (t 13)⟩, Ia 17 4 16, ⟨(some 4), none, .alloc [(.int .i64 0), (.int .i64 0), (.str []), .nils]⟩, Im 3 15, Is 4 4 17])
  (.seq (.draw 0 [(Ia 18 4 4, []), (Ip 19 179 [(t 18)], []), (⟨(some 20), none, .un .not (t 19)⟩, []), (Im 21 20, []), (Jf 22 21 false 0 4, []), (Jl 23 21 false 22, []), (⟨(some 24), (some (21, false)), .bin .eql (t 23) (Ki 0)⟩, []), (⟨(some 25), none, .pick (t 21) (k (.bool true)) (t 24)⟩, []), (Im 26 25, []), (Jf 27 26 false 0 4, []), (Jl 28 26 false 27, []), (Jf 29 26 false 3 1, []), (Jl 30 26 false 29, []), (⟨(some 31), (some (26, false)), .iaddr 4 (t 30) (Ki 0)⟩, []), (Jf 32 26 false 0 31, []), (Jl 33 26 false 32, []), (⟨(some 34), (some (26, false)), .bin .neq (t 28) (t 33)⟩, []), (⟨(some 35), none, .pick (t 26) (k (.bool true)) (t 34)⟩, []), (Im 36 35, []), (Jm 37 36 false 3, []), (⟨(some 38), (some (36, false)), .bin .gtr (t 37) (Ki 0)⟩, []), (Jm 39 36 false 38, []), (Jf 40 39 true 3 1, []), (Jl 41 39 true 40, []), (Jm 42 39 true 3, []), (⟨(some 43), (some (39, true)), .bin .sub (t 42) (Ki 1)⟩, []), (⟨(some 44), (some (39, true)), .iaddr 4 (t 41) (t 43)⟩, []), (⟨(some 45), (some (39, true)), .load true 4 (t 44)⟩, []), (⟨(some 46), (some (39, true)), .load true 4 (t 4)⟩, []), (⟨(some 47), (some (39, true)), .pcall (k (.fn 64 [] [])) [(t 45), (t 46)]⟩, []), (⟨(some 48), (some (39, true)), .bin .geq (t 47) (Ki 0)⟩, []), (⟨(some 49), (some (36, false)), .pick (t 39) (t 48) (k (.bool false))⟩, []), (⟨(some 50), none, .pick (t 36) (k (.bool true)) (t 49)⟩, [])])
  (.cond (t 50)
  (.seq (.reg [⟨(some 2), none, .mv (k (.bool false))⟩])
  .ret)
  .skip))))
  (.reg [⟨(some 51), none, .bin .add (t 13) (Ki 1)⟩, Im 13 51])))))))
  (.seq (.reg [If 52 1 1, Il 53 52, ⟨(some 54), none, .bin .eql (t 53) (Ki 0)⟩, Im 55 54, Jf 56 55 true 2 1, Jl 57 55 true 56, ⟨(some 58), (some (55, true)), .bin .eql (t 57) (k (.str []))⟩, ⟨(some 59), none, .pick (t 55) (t 58) (k (.bool false))⟩, Im 60 59, Jf 61 60 true 3 1, Jl 62 60 true 61, ⟨(some 63), (some (60, true)), .len (t 62)⟩, ⟨(some 64), (some (60, true)), .bin .leq (t 63) (Ki 16)⟩, ⟨(some 65), none, .pick (t 60) (t 64) (k (.bool false))⟩, Im 2 65])
  .ret))))
theorem fn129 : Fn Go.Proofs.Tryz.prog 129 66 [.inl 2] c129 :=
  ⟨⟨_, _, Go.Proofs.Tryz.func129, rfl, by kernel_rfl, Go.Proofs.Tryz.ntmps129, by kernel_rfl, ⟨fun f => imp.contains f, false, fun _ => false, false⟩, by kernel_rfl⟩⟩
def c147 : C :=
  (.seq (.reg [⟨(some 2), none, .mv (k (.bool false))⟩])
  (.seq (.reg [Im 3 0, ⟨(some 4), none, .bin .geq (t 3) (k (.int .u8 97))⟩, Im 5 4, Jm 6 5 true 0, ⟨(some 7), (some (5, true)), .bin .leq (t 6) (k (.int .u8 122))⟩, ⟨(some 8), none, .pick (t 5) (t 7) (k (.bool false))⟩, Im 9 8, Jm 10 9 false 0, ⟨(some 11), (some (9, false)), .bin .eql (t 10) (k (.int .u8 95))⟩, ⟨(some 12), none, .pick (t 9) (k (.bool true)) (t 11)⟩, Im 2 12])
  .ret))
theorem fn147 : Fn Go.Proofs.Tryz.prog 147 13 [.inl 2] c147 :=
  ⟨⟨_, _, Go.Proofs.Tryz.func147, rfl, by kernel_rfl, Go.Proofs.Tryz.ntmps147, by kernel_rfl, ⟨fun f => imp.contains f, false, fun _ => false, false⟩, by kernel_rfl⟩⟩
def c148 : C :=
  (.seq (.reg [⟨(some 2), none, .mv (k (.bool false))⟩])
  (.seq (.reg [Im 3 0, ⟨(some 4), none, .bin .geq (t 3) (k (.int .u8 48))⟩, Im 5 4, Jm 6 5 true 0, ⟨(some 7), (some (5, true)), .bin .leq (t 6) (k (.int .u8 57))⟩, ⟨(some 8), none, .pick (t 5) (t 7) (k (.bool false))⟩, Im 2 8])
  .ret))
theorem fn148 : Fn Go.Proofs.Tryz.prog 148 9 [.inl 2] c148 :=
  ⟨⟨_, _, Go.Proofs.Tryz.func148, rfl, by kernel_rfl, Go.Proofs.Tryz.ntmps148, by kernel_rfl, ⟨fun f => imp.contains f, false, fun _ => false, false⟩, by kernel_rfl⟩⟩
def c174 : C :=
  (.seq (.reg [⟨(some 2), none, .mv (k (.bool false))⟩])
  (.seq (.reg [Im 3 0, Im 4 0, ⟨(some 5), none, .bin .neq (t 3) (t 4)⟩, Im 2 5])
  .ret))
theorem fn174 : Fn Go.Proofs.Tryz.prog 174 6 [.inl 2] c174 :=
  ⟨⟨_, _, Go.Proofs.Tryz.func174, rfl, by kernel_rfl, Go.Proofs.Tryz.ntmps174, by kernel_rfl, ⟨fun f => imp.contains f, false, fun _ => false, false⟩, by kernel_rfl⟩⟩
def c202 : C :=
  (.seq (.reg [⟨(some 2), none, .alloc [(.str []), (.int .i64 0), (.int .i64 0), (.str []), .nils, (.str []), (.str []), .nils]⟩])
  (.seq (.reg [Im 6 0, Ic 7 217 [(t 6)], ⟨(some 3), none, .alloc [(.str []), (.int .i64 0), (.int .i64 0), (.str []), .nils, (.str []), (.str []), .nils]⟩, Is 8 3 7])
  (.seq (.seq (.reg [⟨(some 8), none, .bsl 1 [(k (.str [61, 61])), (k (.str [33, 61])), (k (.str [60])), (k (.str [60, 61])), (k (.str [62])), (k (.str [62, 61])), (k (.str [105, 110]))]⟩, Iz 9 8, ⟨(some 10), none, .mv (Ki 0)⟩])
  (.block 0
  (.loop
  (.seq (.reg [⟨(some 11), none, .bin .lss (t 10) (t 9)⟩])
  (.seq (.cond (t 11)
  .skip
  (.exit 0))
  (.seq (.block 1
  (.seq (.reg [⟨(some 12), none, .iaddr 1 (t 8) (t 10)⟩, Il 13 12, Im 5 13])
  (.seq (.reg [Im 14 0, Im 15 5, Ic 16 69 [(t 14), (t 15)]])
  (.cond (t 16)
  (.seq (.draw 0 [(Im 17 5, []), (Ia 18 8 3, []), (Im 19 0, []), (Ic 20 217 [(t 19)], [Ia 18 8 3]), (Ip 21 169 [(t 17), (t 18), (t 20)], []), (Is 8 2 21, [])])
  .ret)
  .skip))))
  (.reg [⟨(some 22), none, .bin .add (t 10) (Ki 1)⟩, Im 10 22])))))))
  (.seq (.reg [Ia 23 8 3, Is 8 2 23])
  .ret))))
theorem fn202 : Fn Go.Proofs.Tryz.prog 202 24 [.inr (2, true, 8)] c202 :=
  ⟨⟨_, _, Go.Proofs.Tryz.func202, rfl, by kernel_rfl, Go.Proofs.Tryz.ntmps202, by kernel_rfl, ⟨fun f => imp.contains f, false, fun _ => false, false⟩, by kernel_rfl⟩⟩
def c238 : C :=
  (.seq (.reg [⟨(some 2), none, .alloc [(.str []), (.int .i64 0), (.int .i64 0), (.str []), .nils, (.str []), (.str []), .nils]⟩])
  (.seq (.reg [Im 11 0, In 12 11, If 13 1 12, Il 14 13, Im 3 14])
  (.seq (.seq (.reg [Im 16 0, Ic 17 239 [(t 16)], Im 15 17, Ie 18 0 15, Ie 19 1 15, ⟨(some 4), none, .alloc [(.int .i64 0), (.int .i64 0), (.str []), .nils]⟩, Is 4 4 18, Im 5 19])
  (.seq (.reg [Im 20 5])
  (.cond (t 20)
  (.seq (.reg [Ia 21 4 4, ⟨(some 22), none, .build [(.str []), (.int .i64 0), (.int .i64 0), (.str []), .nils, (.str []), (.str []), .nils] [(0, 1, (k (.str [118, 97, 108, 117, 101]))), (1, 4, (t 21))]⟩, Is 8 2 22])
  .ret)
  .skip)))
  (.seq (.block 0
  (.seq (.reg [Im 24 0, Ic 25 69 [(t 24), (k (.str [110, 111, 119]))], Im 23 25])
  (.cond (t 23)
  (.seq (.reg [⟨(some 26), none, .build [(.str []), (.int .i64 0), (.int .i64 0), (.str []), .nils, (.str []), (.str []), .nils] [(0, 1, (k (.str [110, 111, 119])))]⟩, Is 8 2 26])
  .ret)
  (.seq (.reg [Im 28 0, Ip 29 117 [(t 28), (k (.str [40]))], Im 27 29])
  (.cond (t 27)
  (.seq (.reg [Im 30 0, Ic 31 240 [(t 30)], Is 8 2 31])
  .ret)
  (.seq (.reg [Im 33 0, Ic 34 69 [(t 33), (k (.str [91]))], Im 32 34])
  (.cond (t 32)
  (.seq (.reg [Im 35 0, Im 36 3, Ic 37 241 [(t 35), (t 36)], Is 8 2 37])
  .ret)
  (.seq (.reg [Im 39 0, Ic 40 69 [(t 39), (k (.str [115, 105, 122, 101]))], Im 38 40])
  (.cond (t 38)
  (.seq (.reg [Im 41 0, Ic 42 240 [(t 41)], ⟨(some 43), none, .bsl 8 [(t 42)]⟩, ⟨(some 44), none, .build [(.str []), (.int .i64 0), (.int .i64 0), (.str []), .nils, (.str []), (.str []), .nils] [(0, 1, (k (.str [115, 105, 122, 101]))), (7, 1, (t 43))]⟩, Is 8 2 44])
  .ret)
  (.seq (.reg [Im 46 0, Ic 47 69 [(t 46), (k (.str [114, 111, 108, 101]))], Im 45 47])
  (.cond (t 45)
  (.seq (.reg [Im 48 0, Ic 49 71 [(t 48), (k (.str [40]))]])
  (.seq (.reg [Im 50 0, Ic 51 120 [(t 50), (Ki 3)], ⟨(some 52), none, .field false 1 1 (t 51)⟩, ⟨(some 53), none, .build [(.str []), (.int .i64 0), (.int .i64 0), (.str []), .nils, (.str []), (.str []), .nils] [(0, 1, (k (.str [114, 111, 108, 101]))), (6, 1, (t 52))]⟩, ⟨(some 6), none, .alloc [(.str []), (.int .i64 0), (.int .i64 0), (.str []), .nils, (.str []), (.str []), .nils]⟩, Is 8 6 53])
  (.seq (.reg [Im 54 0, Ic 55 71 [(t 54), (k (.str [41]))]])
  (.seq (.reg [Ia 56 8 6, Is 8 2 56])
  .ret))))
  (.seq (.reg [Im 58 0, Ic 59 69 [(t 58), (k (.str [104, 97, 115]))], Im 57 59])
  (.cond (t 57)
  (.seq (.reg [Im 60 0, Ic 61 71 [(t 60), (k (.str [40]))]])
  (.seq (.reg [Im 63 0, Ic 64 118 [(t 63)], Im 62 64, Ie 65 0 62, Ie 66 1 62, Im 7 65, Im 8 66])
  (.seq (.reg [Im 67 0, Ic 68 71 [(t 67), (k (.str [41]))]])
  (.seq (.reg [Im 69 7, Im 70 8, ⟨(some 71), none, .build [(.str []), (.int .i64 0), (.int .i64 0), (.str []), .nils, (.str []), (.str []), .nils] [(0, 1, (k (.str [104, 97, 115]))), (5, 1, (t 69)), (6, 1, (t 70))]⟩, Is 8 2 71])
  .ret))))
  .skip)))))))))))))
  (.seq (.reg [Im 73 0, Ic 74 118 [(t 73)], Im 72 74, Ie 75 0 72, Ie 76 1 72, Im 9 75, Im 10 76])
  (.seq (.reg [Im 77 9, Im 78 10, ⟨(some 79), none, .build [(.str []), (.int .i64 0), (.int .i64 0), (.str []), .nils, (.str []), (.str []), .nils] [(0, 1, (k (.str [97, 116, 116, 114]))), (5, 1, (t 77)), (6, 1, (t 78))]⟩, Is 8 2 79])
  .ret))))))
theorem fn238 : Fn Go.Proofs.Tryz.prog 238 80 [.inr (2, true, 8)] c238 :=
  ⟨⟨_, _, Go.Proofs.Tryz.func238, rfl, by kernel_rfl, Go.Proofs.Tryz.ntmps238, by kernel_rfl, ⟨fun f => imp.contains f, false, fun _ => false, false⟩, by kernel_rfl⟩⟩
def c247 : C :=
  (.seq (.reg [⟨(some 2), none, .mv (k .nils)⟩])
  (.seq (.seq (.reg [Im 3 0, ⟨(some 4), none, .eq1 .slc false (t 3) (k .nils)⟩])
  (.cond (t 4)
  (.seq (.reg [⟨(some 2), none, .mv (k .nils)⟩])
  .ret)
  .skip))
  (.seq (.reg [⟨(some 5), none, .bslm true 4 []⟩, Im 6 0, ⟨(some 7), none, .appm true false 4 56 (t 5) (t 6)⟩, Im 2 7])
  .ret)))
theorem fn247 : Fn Go.Proofs.Tryz.prog 247 8 [.inl 2] c247 :=
  ⟨⟨_, _, Go.Proofs.Tryz.func247, rfl, by kernel_rfl, Go.Proofs.Tryz.ntmps247, by kernel_rfl, ⟨fun f => imp.contains f, true, fun _ => false, false⟩, by kernel_rfl⟩⟩
end GP
namespace GP
open Go Go.Proofs
open Rd O
set_option maxRecDepth 100000
def c176 : C :=
  (.seq (.reg [⟨(some 4), none, .mv (Ki 0)⟩])
  (.seq (.reg [Im 5 0, Im 6 1, Ip 7 205 [(t 5), (t 6)], Im 4 7])
  .ret))
theorem fn176 : Fn Go.Proofs.Tryz.prog 176 8 [.inl 4] c176 :=
  ⟨⟨_, _, Go.Proofs.Tryz.func176, rfl, by kernel_rfl, Go.Proofs.Tryz.ntmps176, by kernel_rfl, ⟨fun f => imp.contains f, false, fun _ => false, false⟩, by kernel_rfl⟩⟩
end GP
namespace GP
open Go Go.Proofs
theorem gPow : Tryz.prog.globalNamed "internal/strconv.uint64pow10" = some 1 := by kernel_rfl
def Vars (c : Cx) (w : World) : Prop := c.bb.1 = false ∧ 4 ≤ c.B ∧ Lib.TabIs Tryz.prog w "internal/strconv.uint64pow10" .u64 Lib.pow10Tab ∧ ∃ te pe, w.cell? ⟨3, 0, none⟩ = some (.iface te pe)
theorem Vars.mono {c c' : Cx} {w w' : World} (hle : c.le c') (hb : Below c.bb w w') (h : Vars c w) : Vars c' w' := by
  obtain ⟨h0, h1, h2, te, pe, h3⟩ := h
  refine ⟨by rw [hle.B]; exact h0, by show 4 ≤ c'.bb.2; rw [hle.B]; exact h1, ?_, te, pe, ?_⟩
  · unfold Lib.TabIs World.var? at h2 ⊢
    rw [gPow] at h2 ⊢
    simp only [Option.bind_some] at h2 ⊢
    rw [hb.block 1 (by have h1' : 4 ≤ c.bb.2 := h1; omega)]; exact h2
  · unfold World.cell? at h3 ⊢
    rw [hb.block 3 (by have h1' : 4 ≤ c.bb.2 := h1; omega)]; exact h3
instance hasG : HasG Tryz.prog := ⟨Vars, Vars.mono⟩
theorem ok_lib {f : FuncId} {φ : List D → Option D}
    (h : ∀ args r, φ args = some r → ∀ (c : Cx) (w : World) (vs : List Value), HasG.G Tryz.prog c w → Reps c args vs → (callFunc f vs.toArray).run Tryz.prog w = .ok (.enter f vs.toArray) w ∧
      Calls Tryz.prog f vs.toArray w fun e w' => ∃ v, e = .returned v ∧ Rep c r v ∧ Below (false, w.heap.size) w w') : OkAt Tryz.prog f φ := by
  intro args r hr args' he H T Q hQ c w vs hg k1 k2 k3
  have k3' : Reps c args vs := by rw [← he]; exact k3.erase
  obtain ⟨g1, g2⟩ := h args r hr c w vs hg k3'
  refine .inl ⟨g1, g2.mono ?_⟩
  rintro e w' ⟨v, rfl, h1, h2⟩
  exact ⟨v, rfl, r, H, T, c, hQ, h1, k1.grownB h2, Cx.le.refl c, k2, by have := h2.mono k1.low; rwa [show ((false, c.B) : Bool × Nat) = c.bb by rw [← hg.1]] at this⟩
end GP
namespace GP
open Go
theorem tf (b : Bool) : b = true ∨ b = false := by cases b <;> simp
theorem flatD_cons (x : D) (xs : List D) : flatD (x :: xs) = x.cells ++ flatD xs := by simp [flatD]
theorem flatD_append (xs ys : List D) : flatD (xs ++ ys) = flatD xs ++ flatD ys := by simp [flatD]
def isAg (sz : Nat) (xs : List D) : Prop := ∀ x ∈ xs, ∃ l, x = .agg l ∧ l.length = sz
theorem isAg.len {sz : Nat} {xs : List D} (h : isAg sz xs) : ∀ x ∈ xs, x.cells.length = sz := fun x hx => by
  obtain ⟨l, rfl, hl⟩ := h x hx; exact hl
theorem isAg.fit {sz : Nat} {xs : List D} (h : isAg sz xs) : xs.all (fit sz) = true := List.all_eq_true.2 fun x hx => by
  obtain ⟨l, rfl, hl⟩ := h x hx; simp [GP.fit, D.okc, D.cells, hl]
theorem isAg.flat {sz : Nat} {xs : List D} (h : isAg sz xs) : (flatD xs).length = xs.length * sz := flatD_len h.len
theorem isAg.sub {sz : Nat} {xs ys : List D} (h : isAg sz xs) (k : ∀ y ∈ ys, y ∈ xs) : isAg sz ys := fun y hy => h y (k y hy)
theorem isAg.set {sz : Nat} {xs : List D} (h : isAg sz xs) {x : D} (hx : ∃ l, x = .agg l ∧ l.length = sz) (i : Nat) : isAg sz (xs.set i x) := fun y hy => by
  rcases List.mem_or_eq_of_mem_set hy with h' | rfl
  · exact h y h'
  · exact hx
theorem flatD_drop {sz : Nat} : ∀ (xs : List D) (i : Nat), (∀ x ∈ xs, x.cells.length = sz) → (flatD xs).drop (i * sz) = flatD (xs.drop i)
  | [], i, _ => by simp [flatD]
  | x :: xs, 0, _ => by simp
  | x :: xs, i + 1, h => by
    rw [flatD_cons, List.drop_succ_cons, ← flatD_drop xs i (fun y hy => h y (by simp [hy])), show (i + 1) * sz = x.cells.length + i * sz by rw [h x (by simp)]; rw [Nat.add_mul]; omega, ← List.drop_drop, List.drop_left]
theorem flatD_take {sz : Nat} : ∀ (xs : List D) (i : Nat), (∀ x ∈ xs, x.cells.length = sz) → (flatD xs).take (i * sz) = flatD (xs.take i)
  | [], i, _ => by simp [flatD]
  | x :: xs, 0, _ => by simp [flatD]
  | x :: xs, i + 1, h => by
    rw [flatD_cons, List.take_succ_cons, flatD_cons, ← flatD_take xs i (fun y hy => h y (by simp [hy])), show (i + 1) * sz = x.cells.length + i * sz by rw [h x (by simp)]; rw [Nat.add_mul]; omega, List.take_length_add_append]
theorem chunk_flat {sz : Nat} : ∀ (xs : List D) (rest : List D), isAg sz xs → chunk true sz xs.length (flatD xs ++ rest) = xs
  | [], _, _ => rfl
  | x :: xs, rest, h => by
    obtain ⟨l, rfl, hl⟩ := h x (by simp)
    simp only [List.length_cons, chunk, if_true, flatD_cons, D.cells, List.append_assoc]
    rw [List.take_left' hl, List.drop_left' hl, chunk_flat xs rest (h.sub fun y hy => by simp [hy])]
theorem rd_ms {sz : Nat} {xs rest : List D} {H : Hp} {o i off : Nat} {x : D} (ho : H[o]? = some (.row (flatD xs ++ rest))) (h : isAg sz xs) (hx : xs[i]? = some x) (hoff : off = i * sz) : ld true sz (rdAt H (.ptr o off)) = some x := by
  subst hoff
  have hi : i < xs.length := by
    rcases Nat.lt_or_ge i xs.length with h' | h'
    · exact h'
    · rw [List.getElem?_eq_none h'] at hx; cases hx
  obtain ⟨l, rfl, hl⟩ := h x (List.mem_of_getElem? hx)
  have hd : (flatD xs ++ rest).drop (i * sz) = l ++ (flatD (xs.drop (i + 1)) ++ rest) := by
    rw [List.drop_append_of_le_length (by rw [h.flat]; exact Nat.mul_le_mul_right _ (by omega)), flatD_drop xs i h.len]
    have : xs.drop i = xs[i] :: xs.drop (i + 1) := List.drop_eq_getElem_cons hi
    rw [this, flatD_cons]
    have : xs[i] = .agg l := by rw [List.getElem?_eq_getElem hi] at hx; injection hx
    rw [this]; simp [D.cells]
  simp only [rdAt, ho, hd, ld, if_true]
  rw [if_pos (by simp [hl]), List.take_left' hl]
theorem st_ms {sz : Nat} {xs rest : List D} {H : Hp} {t : Nat → D} {T : Tk} {o i off : Nat} {x : D} {K : D → S → Prop} (ho : H[o]? = some (.row (flatD xs ++ rest))) (h : isAg sz xs) (hx : ∃ l, x = .agg l ∧ l.length = sz) (hi : i < xs.length) (hoff : off = i * sz)
    (k : K .top ⟨t, H.set o (.row (flatD (xs.set i x) ++ rest)), T⟩) : storeK sz K ⟨t, H, T⟩ (.ptr o off) x := by
  subst hoff
  obtain ⟨l, rfl, hl⟩ := hx
  have hle : i * sz + sz ≤ xs.length * sz := by
    have := Nat.mul_le_mul_right sz (show i + 1 ≤ xs.length from hi)
    rwa [Nat.add_mul, Nat.one_mul] at this
  simp only [storeK, ho]
  refine ⟨rfl, hl, by simp [h.flat]; omega, ?_⟩
  have e : (flatD xs ++ rest).take (i * sz) ++ D.cells (.agg l) ++ (flatD xs ++ rest).drop (i * sz + sz) = flatD (xs.set i (.agg l)) ++ rest := by
    rw [List.take_append_of_le_length (by rw [h.flat]; omega), List.drop_append_of_le_length (by rw [h.flat]; omega), flatD_take xs i h.len,
      show i * sz + sz = (i + 1) * sz by rw [Nat.add_mul]; omega, flatD_drop xs (i + 1) h.len, List.set_eq_take_append_cons_drop, if_pos hi, flatD_append, flatD_cons]
    simp
  rw [e]; exact k
theorem ia_msN {ag : Bool} {sz o off n cap i : Nat} {k : IntKind} (h : i < n) : ia sz (.ms ag sz o off n cap) (.int k (i : Nat)) = some (.ptr o (off + i * sz)) := by
  have e : ((i : Nat) : Int).toNat = i := by omega
  simp only [ia]
  rw [if_pos (by refine ⟨by omega, by omega, ?_⟩; trivial), e]
theorem slc_msN {ag : Bool} {sz o off n cap l h : Nat} (h1 : l ≤ h) (h2 : h ≤ n) (h3 : l < cap) : slc sz (some ((l : Nat) : Int)) (some ((h : Nat) : Int)) (.ms ag sz o off n cap) = some (.ms ag sz o (off + l * sz) (h - l) (cap - l)) := by
  have e1 : ((l : Nat) : Int).toNat = l := by omega
  have e2 : (((h : Nat) : Int) - ((l : Nat) : Int)).toNat = h - l := by omega
  simp only [slc]
  rw [if_pos (by refine ⟨by omega, by omega, by omega, by omega, ?_⟩; trivial), e1, e2]
theorem slc_ms0 {ag : Bool} {sz o off n cap h : Nat} (h2 : h ≤ n) (h3 : 0 < cap) : slc sz (some (0 : Int)) (some ((h : Nat) : Int)) (.ms ag sz o off n cap) = some (.ms ag sz o off h cap) := by
  have := slc_msN (ag := ag) (sz := sz) (o := o) (off := off) (n := n) (cap := cap) (l := 0) (h := h) (by omega) h2 h3
  simpa using this
theorem clr_ms {sz : Nat} {z xs rest : List D} {H : Hp} {t : Nat → D} {T : Tk} {o q n cap off : Nat} {ag : Bool} {K : D → S → Prop} (ho : H[o]? = some (.row (flatD xs ++ rest))) (h : isAg sz xs) (hz : z.length = sz) (hq : q + n = xs.length) (hoff : off = q * sz)
    (k : ∀ rest', K (.tup []) ⟨t, H.set o (.row (flatD (xs.take q) ++ rest')), T⟩) : clrK z K ⟨t, H, T⟩ (.ms ag sz o off n cap) := by
  subst hoff
  have hle : q * sz + n * sz = xs.length * sz := by rw [← hq, Nat.add_mul]
  simp only [clrK, ho]
  refine ⟨hz.symm, by simp [h.flat]; omega, ?_⟩
  rw [List.take_append_of_le_length (by rw [h.flat]; omega), flatD_take xs q h.len, List.append_assoc]
  exact k _
end GP
