import Derived.Test.YtnipbngimicldaaDoorGpU
import Derived.ChangeSame
import Derived.ReadAgain
import Derived.ProofKit
/- From the machine to a row. -/
namespace GP
open Go

open Go.ChangeShapes Go.WideShapes Go.ChangeAt Go.RowKit

section
variable {P : Program} {w : World}

/-- What an argument of a type may be. -/
def Arg (P : Program) (w : World) (t : TypeId) (Φ : D → Prop) : Prop :=
  ∀ (H : Type) (enc : TypeId × Value → H) (v : Value) (d : DataW H) (ps : List MemPlace) (base : Nat), DataW.Trod enc P w 0 (fun _ => true) true t v d ps → (∀ n ∈ d.weights P t, n ≤ reachBytes) → Value.okWide P w .any base t v → ∃ x, Rep (Cx0 w) x v ∧ Φ x

theorem arg_struct {t : TypeId} {fs : Array Field} {φ : List D → Prop} (ht : P.underlying t = some (.struct fs)) (h : ∀ fuel, Rds P w t φ fuel) : Arg P w t (fun x => ∃ ds, x = .agg ds ∧ φ ds) := by
  intro H enc v d ps base hd hz hok
  simp only [Value.okWide, ht] at hok
  obtain ⟨cs, rfl, _, _⟩ := hok
  obtain ⟨fuel, hf⟩ := hd
  obtain ⟨ds, k1, k2⟩ := h fuel H enc _ d ps hf hz
  refine ⟨.agg ds, ?_, ds, rfl, k2⟩
  have := Rep.agg (c := Cx0 w) ds cs.toList k1.len k1.one k1.rep
  simpa using this

def oneDesc : TypeDesc → Bool
  | .int _ | .bool | .string | .slice _ | .pointer _ => true
  | _ => false

theorem arg_one {t : TypeId} {u : TypeDesc} {φ : List D → Prop} (ht : P.underlying t = some u) (hu : oneDesc u = true) (h : ∀ fuel, Rds P w t φ fuel) : Arg P w t (fun x => φ [x]) := by
  intro H enc v d ps base hd hz hok
  obtain ⟨fuel, hf⟩ := hd
  obtain ⟨ds, k1, k2⟩ := h fuel H enc _ d ps hf hz
  have hc : v.cells = #[v] := by
    cases v with
    | agg cs => cases u <;> simp [oneDesc] at hu <;> simp [Value.okWide, ht, Cell.okWide, Cell.ok] at hok
    | _ => rfl
  rw [hc] at k1
  match ds, k1.len with
  | [x], _ => exact ⟨x, by simpa using k1.rep 0 (by simp) (by simp), k2⟩

/-- What the arguments of a function may be. -/
inductive Args (P : Program) (w : World) : List TypeId → (List D → Prop) → Prop where
  | nil : Args P w [] (fun l => l = [])
  | cons {t : TypeId} {ts : List TypeId} {Φ : D → Prop} {Ψ : List D → Prop} : Arg P w t Φ → Args P w ts Ψ → Args P w (t :: ts) (fun l => ∃ x xs, l = x :: xs ∧ Φ x ∧ Ψ xs)

theorem args_read {H : Type} {enc : TypeId × Value → H} : ∀ {ts : List TypeId} {Ψ : List D → Prop} {vs : List Value} {ds : List (DataW H)} {ps : List MemPlace}, Args P w ts Ψ → DataW.TrodAll enc P w 0 (fun _ => true) true ts vs ds ps →
    (∀ n ∈ DataW.weightsEach P ts ds, n ≤ reachBytes) → (∀ (j : Nat) t v, ts[j]? = some t → vs[j]? = some v → ∃ base, Value.okWide P w .any base t v) → ∃ xs, Reps (Cx0 w) xs vs ∧ Ψ xs
  | [], Ψ, vs, ds, ps, h, hd, _, _ => by
    obtain ⟨rfl, rfl, rfl⟩ := trodAll_nil hd
    cases h
    exact ⟨[], Reps.nil, rfl⟩
  | t :: ts, Ψ, vs, ds, ps, h, hd, hz, hok => by
    obtain ⟨v, vs', d, ds', p, q, rfl, rfl, rfl, h1, h2⟩ := trodAll_cons hd
    cases h with
    | cons ha hr =>
      obtain ⟨base, hb⟩ := hok 0 t v rfl rfl
      obtain ⟨x, k1, k2⟩ := ha H enc v d p base h1 (fun n hn => hz n (by simp [DataW.weightsEach, hn])) hb
      obtain ⟨xs, k3, k4⟩ := args_read hr h2 (fun n hn => hz n (by simp [DataW.weightsEach, hn])) (fun j t v e1 e2 => hok (j + 1) t v (by simpa using e1) (by simpa using e2))
      have := Reps.append (d1 := [x]) (v1 := [v]) ⟨rfl, fun i h h' => by
        have : i = 0 := by simp at h; omega
        subst this; simpa using k1⟩ k3
      exact ⟨x :: xs, by simpa using this, x, xs, rfl, k2, k4⟩

theorem trodAll_carry {H : Type} {enc : TypeId × Value → H} {w' : World} {sp : Nat → Bool} : ∀ {ts : List TypeId} {vs : List Value} {ds : List (DataW H)} {ps : List MemPlace}, DataW.TrodAll enc P w 0 sp true ts vs ds ps → (∀ p ∈ ps, w.sameAt w' p) → DataW.TrodAll enc P w' 0 sp true ts vs ds ps
  | [], [], [], ps, h, _ => h
  | t :: ts, v :: vs, d :: ds, ps, ⟨p, q, ⟨n, h1⟩, h2, e⟩, hs => ⟨p, q, ⟨n, DataW.trod_carry n _ _ _ h1 (fun x hx => hs x (by rw [e]; exact List.mem_append_left _ hx))⟩, trodAll_carry h2 (fun x hx => hs x (by rw [e]; exact List.mem_append_right _ hx)), e⟩

end

theorem trodAll_len {H : Type} {enc : TypeId × Value → H} {P : Program} {w : World} {sp : Nat → Bool} : ∀ {ts : List TypeId} {vs : List Value} {ds : List (DataW H)} {ps : List MemPlace}, DataW.TrodAll enc P w 0 sp true ts vs ds ps → vs.length = ts.length
  | [], [], [], _, _ => rfl
  | _ :: _, _ :: _, _ :: _, _, ⟨_, _, _, h, _⟩ => by simp [trodAll_len h]

theorem trodAll_len2 {H : Type} {enc : TypeId × Value → H} {P : Program} {w : World} {sp : Nat → Bool} : ∀ {ts : List TypeId} {vs : List Value} {ds : List (DataW H)} {ps : List MemPlace}, DataW.TrodAll enc P w 0 sp true ts vs ds ps → ds.length = ts.length
  | [], [], [], _, _ => rfl
  | _ :: _, _ :: _, _ :: _, _, ⟨_, _, _, h, _⟩ => by simp [trodAll_len2 h]

theorem post_same {H : Type} {enc : TypeId × Value → H} {P : Program} {f : Func} {s : ChangeSpec} {apart fresh handsOn again : Bool} {W W' : World} {args : Array Value} {v : Value} {ds gs : List (DataW H)} {before pa pv : List MemPlace}
    (hW : DataW.Whole enc P f.params.toList s.vars apart W args.toList ds gs before)
    (hres : ∀ (b : Nat) (sp : Nat → Bool) (hd : Bool), DataW.TrodAll enc P W' b sp hd f.resultTypes.toList (v.resultList f.resultTypes.size) (s.fn H (ds ++ gs)).results [])
    (hargs : ∀ sp : Nat → Bool, (∀ p ∈ before, sp p.block = true) → DataW.TrodAll enc P W' 0 sp true f.params.toList args.toList (s.fn H (ds ++ gs)).args pa)
    (hvars : ∀ sp : Nat → Bool, (∀ p ∈ before, sp p.block = true) → DataW.TrodVars enc P W' sp s.vars (s.fn H (ds ++ gs)).vars pv)
    (hps : before = pa ++ pv) (hk : W.keptBut W' (· ∈ before)) (hfz : ∀ a : Addr, a.block < W.heap.size → W'.frozen? a = W.frozen? a)
    (hok : ∀ (j : Nat) (t : TypeId) (r : Value), f.resultTypes[j]? = some t → (v.resultList f.resultTypes.size)[j]? = some r → Value.okWide P W' .any 0 t r) :
    s.post enc P f apart fresh handsOn again W args v W' := by
  have hlt := hW.lt
  have hold : ∀ p ∈ before, (fun b => decide (b < W.heap.size)) p.block = true := fun p hp => by simpa using hlt p hp
  refine ⟨ds, gs, before, [], pa, pv, hW, hres _ _ _, hargs _ hold, hvars _ hold, World.keptBut_mono (fun p hp => ⟨hp, ?_⟩) hk, fun _ => ?_⟩
  · rw [hps, List.mem_append] at hp
    exact Or.inr hp
  · obtain ⟨_, _, _, _, _, hz, hn⟩ := hW
    refine ⟨hok, _, _, ([] ++ pa) ++ pv, ⟨[] ++ pa, pv, trodAll_append (hargs _ (fun _ _ => rfl)) (hres _ _ _), hvars _ (fun _ _ => rfl), rfl, ?_, ?_⟩, ?_⟩
    · intro b off hp
      have hp' : MemPlace.cell b off ∈ before := by rw [hps]; simpa using hp
      rw [hfz ⟨b, off, none⟩ (hlt _ hp')]
      exact hz b off hp'
    · intro ha
      have := hn ha
      rw [hps] at this
      simpa using this
    · intro p hp _
      rw [hps]
      simpa using hp

theorem bool_of_rep {c : Cx} {v : Value} (h : Rep c (.bool true) v) : v = .bool true := by cases h; rfl

/-- The row's step for a law that returns true. -/
theorem law_contract {H : Type} {enc : TypeId × Value → H} {P : Program} [HasG P] {f : FuncId} {fn : Func} {s : ChangeSpec} {apart : Bool} {W : World} {base : Nat} {args : Array Value} {ds gs : List (DataW H)} {before : List MemPlace} {Ψ : List D → Prop} {tb : TypeId} {n : Nat} {rs : List (Sum Nat (Nat × Bool × Nat))} {cc : C}
    (laid : laidOutB P = true) (rows : mapsRowed P = true) (full : ((List.range P.types.size).all fun t => match P.underlying t with | some (.slice e) => decide (0 < P.cellsOf e) | _ => true) = true)
    (hts : ∀ t ∈ fn.params.toList, t < P.types.size) (hvars : s.vars = []) (hres : fn.resultTypes = #[tb]) (hb : P.underlying tb = some .bool)
    (hval : ∀ (j : Nat) t v, fn.params[j]? = some t → args[j]? = some v → Value.okWide P W .any base t v)
    (hW : DataW.Whole enc P fn.params.toList s.vars apart W args.toList ds gs before)
    (hsz : (DataW.weightsEach P (fn.params.toList ++ s.plain.varTypes P) (ds ++ gs)).all (· ≤ reachBytes) = true)
    (hspec : ∀ l : List (DataW H), l.length = fn.params.toList.length → s.fn H l = { results := [.lit (.bool true)], args := l })
    (hA : Args P W fn.params.toList Ψ) (hf : Fn P f n rs cc) (hlen : fn.params.size ≤ n)
    (hG : HasG.G P (Cx0 W) W) (hS : ∀ xs, Ψ xs → GP.W (Snd P) cc (endQ rs (fun r _ _ => r = .bool true)) ⟨argT xs, [], []⟩) :
    Calls P f args W fun e W' => ∃ v, e = .returned v ∧ s.post enc P fn apart true false false W args v W' := by
  have hW' := hW
  obtain ⟨p, q, hA0, hV, hpq, hfz, hnd⟩ := hW
  rw [hvars] at hV
  obtain ⟨rfl, rfl⟩ := trodVars_none hV
  simp only [List.append_nil] at hpq
  subst hpq
  have hplain : s.plain.varTypes P = [] := by simp [ChangeSpec.plain, DataSpec.varTypes, hvars]
  rw [hplain] at hsz
  simp only [List.append_nil] at hsz
  obtain ⟨xs, k1, k2⟩ := args_read hA hA0 (fun n hn => by simpa using List.all_eq_true.1 hsz n hn) (fun j t v e1 e2 => ⟨base, hval j t v (by simpa using e1) (by simpa using e2)⟩)
  have hdl : ∀ {ts : List TypeId} {vs : List Value} {ds : List (DataW H)} {ps : List MemPlace}, DataW.TrodAll enc P W 0 (fun _ => true) true ts vs ds ps → ds.length = ts.length := trodAll_len2
  have hspec := hspec (ds ++ []) (by rw [List.append_nil]; exact hdl hA0)
  simp only [List.append_nil] at hspec
  have hl := k1.len
  have hl2 := trodAll_len hA0
  have hc := (call_body hf (args := xs) (by rw [← hl, hl2]; simpa using hlen) (hS xs k2) (Cx0 W) W args.toList hG (inv0 W) rfl k1).2
  rw [show args.toList.toArray = args by simp] at hc
  refine hc.mono ?_
  rintro e W' ⟨v, rfl, r, H', T', c', hr, hrep, _, _, _, hbel⟩
  subst hr
  have := bool_of_rep hrep
  subst this
  have hbel : RowKit.Below W.heap.size W W' := hbel.kit
  have hlt : ∀ x ∈ before, x.block < W.heap.size := hA0.lt
  have hread := trodAll_carry (w' := W') hA0 (fun x hx => hbel.same (hlt x hx))
  have K := kids_rows laid rows
  refine ⟨_, rfl, post_same (pa := before) (pv := []) hW' (fun _ _ _ => ?_) (fun sp hsp => ?_) (fun _ _ => ?_) (by simp) (hbel.frame _) ?_ ?_⟩
  · rw [List.append_nil, hspec, hres]
    exact trodAll_cons_mk (shut_bool hb _) trodAll_mk0
  · rw [List.append_nil, hspec]
    exact DataW.TrodAll.respare K (slices_full_of P full) hts hread (fun x hx => hsp x (by simpa using hx))
  · rw [List.append_nil, hspec, hvars]; rfl
  · intro a ha
    exact hbel.frozen ha
  · exact ok_one hres rfl (okWide_bool_mk hb _)
end GP
