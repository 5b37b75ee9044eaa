import Derived.Handed
/- A law's plain wrap that hands the walk both the row's listed variables and the world's shape (the kit has each alone). -/
namespace Go.Proofs.YtnpmmhceiaedcaaDoor.H
open Go
theorem handed_both {Hh : Type} {enc : TypeId × Value → Hh} {a : Assume} {C : Checked} {os : Os} {f : FuncId} {fn : Func} {s : ChangeSpec} {conds : List PathCond} {p1 p2 p3 p4 : Bool} {X : World → Array Value → Prop}
    (keeps : ∀ (u u' : World) (xs : Array Value), u.heap = u'.heap → X u xs → X u' xs)
    (own : ownKnob C.prog.godebug = none) (started : os.Started) (noInit : C.prog.inits.idxOf? f = none) (hfn : C.prog.funcs[f]? = some fn)
    (witness : ∃ (u : World) (tape : Tape) (i : Input), u.os = os ∧ (u.forCall tape i).Shaped C.prog ∧ i.vars = [] ∧ Input.okWide C.prog (u.forCall tape i) .any u.heap.size f i ∧
      ((s.pre enc C.prog fn conds p1 (u.forCall tape i).memory i.args ∧ X (u.forCall tape i).memory i.args) ∧ sizedMet enc C.prog fn (OpenSpec.ofChange s) p1 (u.forCall tape i).memory i.args) ∧ a.holds C.prog (lone (Frame.enter C.prog f i.args .normal) [] (u.forCall tape i)))
    (walk : ∀ (W : World) (base : Nat) (args : Array Value) (ds gs : List (DataW Hh)) (before : List MemPlace),
      (∀ (j : Nat) t v, fn.params[j]? = some t → args[j]? = some v → Value.okWide C.prog W .any base t v) →
      DataW.Whole enc C.prog fn.params.toList s.vars p1 W args.toList ds gs before →
      conds.all (PathCond.test C.prog ⟨fn.params.toList, ds, s.plain.varTypes C.prog, gs⟩) = true →
      (DataW.weightsEach C.prog (fn.params.toList ++ s.plain.varTypes C.prog) (ds ++ gs)).all (· ≤ reachBytes) = true → X W args → W.ShapedOpen C.prog →
      a.holds C.prog (lone (Frame.enter C.prog f args .normal) [] W) →
      Calls C.prog f args W fun e W' => ∃ v, e = .returned v ∧ s.post enc C.prog fn p1 p2 p3 p4 W args v W') :
    ReturnsInHanded a C os f .any (fun w args => (s.pre enc C.prog fn conds p1 w args ∧ X w args) ∧ sizedMet enc C.prog fn (OpenSpec.ofChange s) p1 w args) (s.post enc C.prog fn p1 p2 p3 p4) := by
  refine returnsInHanded_of_calls own started noInit witness fun u tape i _ shape _ ok pre holds => ?_
  obtain ⟨_, _, _, fn', hfn', _, _, _, _, hval⟩ := ok
  obtain rfl : fn' = fn := Option.some.inj (hfn'.symm.trans hfn)
  obtain ⟨⟨⟨ds, gs, before, whole, hc⟩, hx⟩, hz⟩ := pre
  refine (walk (u.forCall tape i) u.heap.size i.args ds gs before hval (DataW.Whole.of_heap (w' := u.forCall tape i) (by rfl) whole) hc (hz.weights whole) (keeps _ _ _ (by rfl) hx) shape holds).mono ?_
  rintro e W' ⟨v, rfl, hp⟩
  exact ChangeSpec.post_blind hp
end Go.Proofs.YtnpmmhceiaedcaaDoor.H
