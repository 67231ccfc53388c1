/-
  A law's row: true is told, and the arguments read as they did.
-/
import Derived.Test.YtkhcoglcciacdaaGreatDoorP5
import Derived.ProofKit
namespace Go.Abs
open Go.RowKit Go.ChangeShapes
section
variable {H : Type} {enc : TypeId × Value → H} {P : Program}
theorem trodAll_below {W W' : World} (laid : laidOutB P = true) (hb : Below W.heap.size W W') {sp : Nat → Bool} : ∀ {ts : List TypeId} {vs : List Value} {ds : List (DataW H)} {ps : List MemPlace},
    (ts.all fun t => P.readableRec t && decide (t < P.types.size)) = true → DataW.TrodAll enc P W 0 (fun _ => true) true ts vs ds ps → (∀ x ∈ ps, x.block < W.heap.size) → (∀ p ∈ ps, sp p.block = true) → DataW.TrodAll enc P W' 0 sp true ts vs ds ps
  | [], [], [], ps, _, h, _, _ => h
  | t :: ts, v :: vs, d :: ds, ps, hr, h, hlt, hsp => by
    simp only [List.all_cons, Bool.and_eq_true, decide_eq_true_eq] at hr
    obtain ⟨p, q, h1, h2, rfl⟩ := h
    exact ⟨p, q, WideElems.Trod_stays laid hr.1.1 hr.1.2 h1 (fun x hx => hb.same (hlt x (List.mem_append_left _ hx))) (fun x hx => hsp x (List.mem_append_left _ hx)),
      trodAll_below laid hb hr.2 h2 (fun x hx => hlt x (List.mem_append_right _ hx)) (fun x hx => hsp x (List.mem_append_right _ hx)), rfl⟩
  | [], _ :: _, _, _, _, h, _, _ => by simp [DataW.TrodAll] at h
  | [], [], _ :: _, _, _, h, _, _ => by simp [DataW.TrodAll] at h
  | _ :: _, [], _, _, _, h, _, _ => by simp [DataW.TrodAll] at h
  | _ :: _, _ :: _, [], _, _, h, _, _ => by simp [DataW.TrodAll] at h
theorem trodAll_length {W : World} {base : Nat} {sp : Nat → Bool} {hd : Bool} : ∀ {ts : List TypeId} {vs : List Value} {ds : List (DataW H)} {ps : List MemPlace}, DataW.TrodAll enc P W base sp hd ts vs ds ps → ds.length = ts.length
  | [], [], [], _, _ => rfl
  | _ :: _, _ :: _, _ :: _, _, h => by
    obtain ⟨_, _, _, h2, _⟩ := h
    simpa using trodAll_length h2
  | [], _ :: _, _, _, h => by simp [DataW.TrodAll] at h
  | [], [], _ :: _, _, h => by simp [DataW.TrodAll] at h
  | _ :: _, [], _, _, h => by simp [DataW.TrodAll] at h
  | _ :: _, _ :: _, [], _, h => by simp [DataW.TrodAll] at h
theorem post_true {f : Func} {s : ChangeSpec} {apart fresh handsOn again : Bool} {W W' : World} {args : Array Value} {ds gs : List (DataW H)} {before : List MemPlace} (hv : s.vars = [])
    (hfn : s.fn H ds = { results := [.lit (.bool true)], args := ds }) (laid : laidOutB P = true) (hread : (f.params.toList.all fun t => P.readableRec t && decide (t < P.types.size)) = true)
    {tb : TypeId} (hrt : f.resultTypes = #[tb]) (htb : P.underlying tb = some .bool) (hW : DataW.Whole enc P f.params.toList s.vars apart W args.toList ds gs before) (hb : Below W.heap.size W W') :
    s.post enc P f apart fresh handsOn again W args (.bool true) W' := by
  have hW' := hW
  obtain ⟨p, q, h1, h2, rfl, hz, hn⟩ := hW
  have h3 := h2
  rw [hv] at h3
  obtain ⟨rfl, rfl⟩ := trodVars_none h3
  have hlt : ∀ x ∈ p ++ [], x.block < W.heap.size := fun x hx => hW'.lt x hx
  simp only [List.append_nil] at hlt hz hn hW'
  have hargs : ∀ sp : Nat → Bool, (∀ x ∈ p, sp x.block = true) → DataW.TrodAll enc P W' 0 sp true f.params.toList args.toList ds p := fun sp hsp => trodAll_below laid hb hread h1 hlt hsp
  have hvars : ∀ sp : Nat → Bool, DataW.TrodVars enc P W' sp s.vars [] [] := fun sp => by rw [hv]; rfl
  have hres : ∀ (b : Nat) (sp : Nat → Bool) (hd : Bool), DataW.TrodAll enc P W' b sp hd f.resultTypes.toList ((Value.bool true).resultList f.resultTypes.size) [.lit (.bool true)] [] := fun b sp hd => by
    rw [hrt]
    exact trodAll_mk1 (shut_bool htb true)
  refine ⟨ds, [], p, [], p, [], hW', ?_, ?_, ?_, ?_, fun _ => ⟨ok_one hrt rfl (okWide_bool_mk htb true), _, [], p, ⟨[] ++ p, [], trodAll_append (hargs (fun _ => true) fun _ _ => rfl) (hres 0 (fun _ => true) true), hvars (fun _ => true), by simp, ?_, fun ha => by simpa using hn ha⟩, fun x hx _ => hx⟩⟩
  · rw [List.append_nil, hfn]; exact hres _ _ _
  · rw [List.append_nil, hfn]; exact hargs _ fun x hx => by simpa using hlt x hx
  · rw [List.append_nil, hfn]; exact hvars _
  · exact World.keptBut_mono (fun x hx => ⟨hx, .inr (.inl hx)⟩) (hb.frame (· ∈ p))
  · intro b off hp
    rw [hb.frozen (hlt _ hp)]
    exact hz b off hp
theorem weightsEach_app {P : Program} {k : Nat} : ∀ {ts us : List TypeId} {l m : List (DataW H)}, l.length = ts.length → k ∈ DataW.weightsEach P ts l → k ∈ DataW.weightsEach P (ts ++ us) (l ++ m)
  | [], us, [], m, _, h => by simp [DataW.weightsEach] at h
  | t :: ts, us, d :: l, m, hl, h => by
    simp only [List.cons_append, DataW.weightsEach, List.mem_append] at h ⊢
    rcases h with h | h
    · exact .inl h
    · exact .inr (weightsEach_app (by simpa using hl) h)
  | [], _, _ :: _, _, hl, _ => by simp at hl
  | _ :: _, _, [], _, hl, _ => by simp at hl
theorem law_contract {E : Env} {T : Nat → Option AFunc} (hT : Agrees E T) (hm : E.P.follows .mixedOrders = true) {f : FuncId} {g : Nat} (hg : E.gid f = some g) {n : Nat} {fn : Func} {ss : List Sh} (hss : shAll E.P n fn.params.toList = some ss)
    (hlaw : ∀ (h : Heap) (l : List Dat) (as : List AVal), HasArgs h ss l as → h.base = h.size → h.wmin = h.size → xCall T g as h = some (.bool true, h))
    {s : ChangeSpec} (hv : s.vars = []) (hfn : ∀ ds : List (DataW H), ds.length = fn.params.toList.length → s.fn H ds = { results := [.lit (.bool true)], args := ds })
    (laid : laidOutB E.P = true) (hread : (fn.params.toList.all fun t => E.P.readableRec t && decide (t < E.P.types.size)) = true) {tb : TypeId} (hrt : fn.resultTypes = #[tb]) (htb : E.P.underlying tb = some .bool)
    {apart fresh handsOn again : Bool} {W : World} {base : Nat} {args : Array Value} {ds gs : List (DataW H)} {before : List MemPlace}
    (hval : ∀ (j : Nat) t v, fn.params[j]? = some t → args[j]? = some v → Value.okWide E.P W .any base t v) (hW : DataW.Whole enc E.P fn.params.toList s.vars apart W args.toList ds gs before) (hz : (DataW.weightsEach E.P (fn.params.toList ++ s.plain.varTypes E.P) (ds ++ gs)).all (· ≤ reachBytes) = true) (htab : Tabs E [] 0 W := by exact ⟨Nat.zero_le _, fun _ h => by cases h⟩) :
    Calls E.P f args W fun e W' => ∃ v, e = .returned v ∧ s.post enc E.P fn apart fresh handsOn again W args v W' := by
  have hW' := hW
  obtain ⟨p, q, h1, _⟩ := hW
  have hl := trodAll_length h1
  have hz' : ∀ k ∈ DataW.weightsEach E.P fn.params.toList ds, k ≤ reachB := fun k hk => by
    rw [List.all_eq_true] at hz
    have hm : k ∈ DataW.weightsEach E.P (fn.params.toList ++ s.plain.varTypes E.P) (ds ++ gs) := weightsEach_app hl hk
    have h1 : k ≤ reachBytes := of_decide_eq_true (hz k hm)
    exact h1
  refine (law_calls hT hm hg hss hlaw htab h1 hz' (fun j t v ht hv' => hval j t v (by simpa using ht) (by simpa using hv'))).mono fun e W' ⟨he, hb⟩ => ?_
  exact ⟨_, he, post_true hv (hfn ds (trodAll_length h1)) laid hread hrt htb hW' hb⟩
end
end Go.Abs
