import Derived.Test.YtmfnadojephcpaaPvRun
import Derived.Below
import Derived.Carry
import Derived.ChangeSame
import Derived.RowKit
set_option linter.unusedSimpArgs false
set_option linter.unusedVariables false
namespace Go.Pv
open Go.ChangeShapes Go.RowKit
def M0 (W : World) : Meta where
 nid := 0
 loc := fun _ => none
 tip := fun _ => 0
 cur := fun _ => (0, 0)
 im := fun b o => W.cell? ⟨b, o, none⟩
 bsz := fun b => match W.heap[b]? with | some (.cells c _ _) => some c.size | _ => none
theorem inv0 (W : World) : Inv (M0 W) Heap.empty W where
 nid := rfl
 fresh := fun id _ => by simp [Heap.empty, Heap.get, PT.get]
 freshl := fun _ _ => rfl
 cells := fun id cs e => by simp [Heap.empty, Heap.get, PT.get] at e
 tips := fun id n e => by simp [Heap.empty, Heap.get, PT.get] at e
 maps := fun id es e => by simp [Heap.empty, Heap.get, PT.get] at e
 im := fun b o v e => e
 bsz := fun b n e => by
  simp only [M0] at e
  split at e
  ·rename_i h; exact lt_of_some h
  ·simp at e
 one := fun id id' b e _ => by simp [Wb, Heap.empty, Heap.get, PT.get] at e
 resv := fun id e => by simp [Heap.empty, Heap.get, PT.get] at e
theorem run_calls {E : Env} (hm : E.P.follows .mixedOrders = true) (hP : progOk E.P = true) {N : Nat} {f : FuncId} {xs : List IV} {v : IV} {h' : Heap} (hr : runF E N f xs Heap.empty = some (v, h'))
  (W : World) {rs : List Value} (hG : GOK E (M0 W)) (hv : VRs (M0 W) xs rs) :
  Calls E.P f rs.toArray W fun e W' => ∃ r M', e = .returned r /\ VR M' v r /\ Below W.heap.size W W' := by
 refine ((func_sim hm hP N f xs Heap.empty v h' hr).2 (M0 W) W rs (inv0 W) hG hv).mono ?_
 rintro e W' ⟨r, M', h1, h2, h3, h4⟩
 exact ⟨r, M', h1, h2, h4.os, h4.tape, h4.output, h4.size, fun k hk => (h4.keep k hk (by rintro ⟨id, e⟩; simp [Wb, Heap.empty, Heap.get, PT.get] at e)).1⟩
theorem run_true {E : Env} (hm : E.P.follows .mixedOrders = true) (hP : progOk E.P = true) {N : Nat} {f : FuncId} {xs : List IV} {h' : Heap} (hr : runF E N f xs Heap.empty = some (.bool true, h'))
  (W : World) {rs : List Value} (hG : GOK E (M0 W)) (hv : VRs (M0 W) xs rs) :
  Calls E.P f rs.toArray W fun e W' => e = .returned (.bool true) /\ Below W.heap.size W W' := by
 refine (run_calls hm hP hr W hG hv).mono ?_
 rintro e W' ⟨r, M', h1, h2, h3⟩
 cases h2
 exact ⟨h1, h3⟩
def isTrue (r : Option (IV × Heap)) : Bool := match r with
 | some (.bool true, _) => true
 | _ => false
theorem isTrue_run {r : Option (IV × Heap)} (h : isTrue r = true) : ∃ h', r = some (.bool true, h') := by
 unfold isTrue at h
 split at h
 ·exact ⟨_, rfl⟩
 ·simp at h
section
variable {H : Type} {enc : TypeId × Value -> H} {P : Program}
theorem below_trodAll (hl : laidOutB P = true) {W W' : World} (hb : Below W.heap.size W W') (sp : Nat -> Bool) :
  ∀ {ts : List TypeId} {vs : List Value} {ds : List (DataW H)} {ps : List MemPlace}, ts.all (fun t => P.readableRec t && decide (t < P.types.size)) = true -> DataW.TrodAll enc P W 0 (fun _ => true) true ts vs ds ps ->
   (∀ p ∈ ps, p.block < W.heap.size) -> (∀ p ∈ ps, sp p.block = true) -> DataW.TrodAll enc P W' 0 sp true ts vs ds ps
 | [], vs, ds, ps, _, h, _, _ => by
   obtain ⟨rfl, rfl, rfl⟩ := trodAll_nil h
   exact trodAll_mk0
 | t :: ts, vs, ds, ps, ht, h, hlt, hsp => by
   obtain ⟨v, vs', d, ds', p, q, rfl, rfl, rfl, h1, h2⟩ := trodAll_cons h
   simp only [List.all_cons, Bool.and_eq_true, decide_eq_true_eq] at ht
   exact ⟨p, q, WideElems.Trod_stays hl ht.1.1 ht.1.2 h1 (fun x hx => hb.same (hlt x (by simp [hx]))) (fun x hx => hsp x (by simp [hx])),
    below_trodAll hl hb sp (by simpa using ht.2) h2 (fun x hx => hlt x (by simp [hx])) (fun x hx => hsp x (by simp [hx])), rfl⟩
theorem post_of_below {f : Func} {s : ChangeSpec} {apart fresh handsOn again : Bool} {W W' : World} {args : Array Value} {ds gs : List (DataW H)} {before : List MemPlace} {tb : TypeId}
  (hl : laidOutB P = true) (hrd : f.params.toList.all (fun t => P.readableRec t && decide (t < P.types.size)) = true) (hrt : f.resultTypes = #[tb]) (hub : P.underlying tb = some .bool)
  (hW : DataW.Whole enc P f.params.toList s.vars apart W args.toList ds gs before) (hvars : s.vars = []) (hb : Below W.heap.size W W')
  (hres : (s.fn H (ds ++ gs)).results = [.lit (.bool true)]) (hargs : (s.fn H (ds ++ gs)).args = ds) (hvs : (s.fn H (ds ++ gs)).vars = []) :
  s.post enc P f apart fresh handsOn again W args (.bool true) W' := by
 have hold : ∀ p ∈ before, p.block < W.heap.size := fun p hp => hW.lt p hp
 have hW0 := hW
 obtain ⟨p, q, hA, hV, hpq, hz, hn⟩ := hW0
 rw [hvars] at hV
 obtain ⟨rfl, rfl⟩ := trodVars_none hV
 rw [List.append_nil] at hpq
 subst hpq
 have r1 : ∀ (b : Nat) (sp : Nat -> Bool) (hd : Bool), DataW.TrodAll enc P W' b sp hd f.resultTypes.toList ((Value.bool true).resultList f.resultTypes.size) (s.fn H (ds ++ [])).results [] := by
  intro b sp hd
  rw [hres, hrt]
  exact trodAll_mk1 (shut_bool hub true)
 have a1 : ∀ sp : Nat -> Bool, (∀ p ∈ before, sp p.block = true) -> DataW.TrodAll enc P W' 0 sp true f.params.toList args.toList (s.fn H (ds ++ [])).args before := by
  intro sp hsp
  rw [hargs]
  exact below_trodAll hl hb sp hrd hA hold hsp
 have v1 : ∀ sp : Nat -> Bool, DataW.TrodVars enc P W' sp s.vars (s.fn H (ds ++ [])).vars [] := by
  intro sp; rw [hvs, hvars]; rfl
 refine ⟨ds, [], before, [], before, [], hW, r1 _ _ _, a1 _ (fun p hp => by simpa using hold p hp), v1 _, World.keptBut_mono (fun p hp => ⟨hp, by simp [hp]⟩) (hb.frame (· ∈ before)), fun _ => ⟨ok_one hrt rfl (okWide_bool_mk hub true), _, _, ([] ++ before) ++ [],
  ⟨[] ++ before, [], trodAll_append (a1 _ (fun _ _ => rfl)) (r1 _ _ _), v1 _, rfl, ?_, ?_⟩, ?_⟩⟩
 ·intro b off hp
  have hp' : MemPlace.cell b off ∈ before := by simpa using hp
  rw [hb.frozen (p := ⟨b, off, none⟩) (hold _ hp')]
  exact hz b off hp'
 ·intro ha
  simpa using hn ha
 ·intro p hp _
  simpa using hp
end
end Go.Pv
