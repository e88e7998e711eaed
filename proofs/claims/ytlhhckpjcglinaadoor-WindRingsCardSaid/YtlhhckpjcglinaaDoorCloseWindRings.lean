/- Contracts of the given functions, on data. Conditions stand in each theorem. -/
import Derived.Test.YtlhhckpjcglinaaDoorCards
import Derived.Test.YtlhhckpjcglinaaDoorTie
import Derived.WalkKit
import Derived.ProofKit
import Derived.OpenShut
import Derived.Deep.DeepHandedRow
import Derived.Lib.LaidTab
import Derived.Test.YtlhhckpjcglinaaDoorGEvZ
import Derived.Test.YtlhhckpjcglinaaDoorGArWindQ
import Derived.Test.YtlhhckpjcglinaaDoorFactsWindRings
set_option linter.unusedSimpArgs false
set_option linter.unusedVariables false
namespace Go.Proofs.YtlhhckpjcglinaaDoor.windRings
open Go Go.ChangeShapes Go.WideShapes Go.ChangeAt Go.RowKit Go.Ev

theorem own : ownKnob Tryd.prog.godebug = none := by kernel_rfl
theorem gTab : Tryd.prog.globalNamed "math/bits.deBruijn32tab" = some 0 := by kernel_rfl
theorem gTabType : (Tryd.prog.globals[0]?).map (·.type) = some 108 := by kernel_rfl
theorem cellsT : Tryd.prog.cellsOf 108 = 32 := by kernel_rfl
theorem cellsE : Tryd.prog.cellsOf 5 = 1 := by kernel_rfl
theorem laidOut : laidOutB Tryd.prog = true := by kernel_rfl

/-- What the row's list gives: the table's cells hold its numbers. -/
theorem table {W : World} (h : laidMetH Tryd.prog Rows.windRingsRow.laid W) : Lib.TabIs Tryd.prog W "math/bits.deBruijn32tab" .u8 [0, 1, 28, 2, 29, 14, 24, 3, 30, 22, 20, 15, 25, 17, 4, 8, 31, 27, 13, 23, 21, 19, 16, 7, 26, 12, 18, 6, 11, 5, 10, 9] :=
  Lib.tabIs_of_head (rest := []) gTab gTabType Tryd.underlying108 Tryd.underlying5 cellsE cellsT h
theorem globs {W : World} (h : laidMetH Tryd.prog Rows.windRingsRow.laid W) : ∀ g, DRL (allImm W) W g 0 (Ar.G0 g) := by
  have ht := table h
  intro g
  match g with
  | 0 =>
    refine DRL_mk fun j x hj => ?_
    have hj32 : j < 32 := (List.getElem?_eq_some_iff.1 hj).1
    have hc := ht.cell gTab j hj32
    rw [Nat.zero_add]
    refine ⟨(spot_none hc).2, _, hc, ?_⟩
    rw [show Ar.G0 0 = ([0, 1, 28, 2, 29, 14, 24, 3, 30, 22, 20, 15, 25, 17, 4, 8, 31, 27, 13, 23, 21, 19, 16, 7, 26, 12, 18, 6, 11, 5, 10, 9] : List Int).map (D.int .u8) from rfl, List.getElem?_map, Option.map_eq_some_iff] at hj
    obtain ⟨n, hn, rfl⟩ := hj
    rw [List.getD_eq_getElem?_getD, hn]
    simp only [DR, Option.getD_some]
  | n + 1 => exact trivial

set_option maxRecDepth 100000 in
theorem contract (H : Type) (enc : TypeId × Value → H) (W : World) (base : Nat) (args : Array Value) (ds gs : List (DataW H)) (before : List MemPlace)
    (hval : ∀ (j : Nat) t v, Tryd.f3.params[j]? = some t → args[j]? = some v → Value.okWide Tryd.prog W .any base t v)
    (hW : DataW.Whole enc Tryd.prog Tryd.f3.params.toList Rows.windRingsSpec.vars false W args.toList ds gs before) (hL : laidMetH Tryd.prog Rows.windRingsRow.laid W) :
    Calls Tryd.prog 3 args W fun e W' => ∃ v, e = .returned v ∧ Rows.windRingsSpec.post enc Tryd.prog Tryd.f3 false true false false W args v W' := by
  refine law_contract (tb := 4) [5, 5, 22, 22] [.int .u8, .int .u8, .int .i16, .int .i16] (by rw [Tryd.params3]) (by kernel_rfl) Tryd.underlying4 rfl laidOut (by kernel_rfl) (by kernel_rfl) ?_ ?_ (globs hL) hval hW
  · intro ds hds
    match ds, hds with
    | [d0, d1, d2, d3], _ => rfl
  · intro xs hxs
    obtain ⟨x0, _, rfl, hx0, x1, _, rfl, hx1, x2, _, rfl, hx2, x3, _, rfl, hx3, rfl⟩ := hxs
    obtain ⟨n0, rfl, hn0⟩ := arg_k hx0
    have hm0 : (0 : Int) ≤ n0 ∧ n0 ≤ 255 := ⟨hn0.1, hn0.2⟩
    obtain ⟨n1, rfl, hn1⟩ := arg_k hx1
    have hm1 : (0 : Int) ≤ n1 ∧ n1 ≤ 255 := ⟨hn1.1, hn1.2⟩
    obtain ⟨n2, rfl, hn2⟩ := arg_k hx2
    have hm2 : (-32768 : Int) ≤ n2 ∧ n2 ≤ 32767 := ⟨hn2.1, hn2.2⟩
    obtain ⟨n3, rfl, hn3⟩ := arg_k hx3
    have hm3 : (-32768 : Int) ≤ n3 ∧ n3 ≤ 32767 := ⟨hn3.1, hn3.2⟩
    exact Ar.windrings_at n0 n1 n2 n3 (by omega) (by omega) (by omega) (by omega) (by omega) (by omega) (by omega) (by omega)

/-- A world for the witness: the settled one, the table (block 0) holding what its initialiser lays. -/
noncomputable def laidWorld (os : Os) : World :=
  { World.holding Tryd.prog os ⟨#[], #[], []⟩ with heap := (World.holding Tryd.prog os ⟨#[], #[], []⟩).heap.modify 0 fun
      | .cells _ t frozen => .cells #[.int .u8 0, .int .u8 1, .int .u8 28, .int .u8 2, .int .u8 29, .int .u8 14, .int .u8 24, .int .u8 3, .int .u8 30, .int .u8 22, .int .u8 20, .int .u8 15, .int .u8 25, .int .u8 17, .int .u8 4, .int .u8 8, .int .u8 31, .int .u8 27, .int .u8 13, .int .u8 23, .int .u8 21, .int .u8 19, .int .u8 16, .int .u8 7, .int .u8 26, .int .u8 12, .int .u8 18, .int .u8 6, .int .u8 11, .int .u8 5, .int .u8 10, .int .u8 9] t frozen
      | o => o }
theorem laid_met (os : Os) : laidMet Tryd.prog Rows.windRingsRow.laid ((laidWorld os).forCall (fun _ _ => 0) ⟨#[], #[Value.int .u8 0, Value.int .u8 0, Value.int .i16 0, Value.int .i16 0], []⟩).memory :=
  laidMet_of_run' 8 (by kernel_rfl) (by kernel_rfl)
set_option maxRecDepth 100000 in
theorem reads (os : Os) {H : Type} (enc : TypeId × Value → H) : ∃ ds places, DataW.whole enc Tryd.prog ((laidWorld os).forCall (fun _ _ => 0) ⟨#[], #[Value.int .u8 0, Value.int .u8 0, Value.int .i16 0, Value.int .i16 0], []⟩).memory Tryd.f3.params.toList Rows.windRingsSpec.vars false (#[Value.int .u8 0, Value.int .u8 0, Value.int .i16 0, Value.int .i16 0] : Array Value).toList 8 = some (ds, [], places) :=
  ⟨[.lit (.int .u8 0), .lit (.int .u8 0), .lit (.int .i16 0), .lit (.int .i16 0)], [], by kernel_rfl⟩

set_option maxRecDepth 100000 in
theorem lifted (os : Os) (started : os.Started) (H : Type) (enc : TypeId × Value → H) (F : Stop.Interp) :
    ReturnsInHanded {} Tryd.checked os 3 .any ((OpenSpec.ofChange Rows.windRingsSpec).preRow enc Tryd.prog Tryd.f3 Rows.windRingsRow.domain false Rows.windRingsRow.laid) (((OpenSpec.ofChange Rows.windRingsSpec).at F).post enc Tryd.prog Tryd.f3 false true false false) := by
  obtain ⟨ds, places, hx⟩ := reads os enc
  refine returnsInHanded_of_row (C := Tryd.checked) (s := OpenSpec.ofChange Rows.windRingsSpec) own started (by kernel_rfl) Tryd.func3
    (witness_row_at (enc := enc) (C := Tryd.checked) false (laidWorld os) #[Value.int .u8 0, Value.int .u8 0, Value.int .i16 0, Value.int .i16 0] rfl (by kernel_rfl) (by kernel_rfl) (by kernel_rfl)
      (OpenSpec.preRow_of_cond 8 hx (by kernel_rfl) (fun k hk => by cases hk) (by kernel_rfl) (laid_met os))) ?_
  intro W base args ds gs before hval hW _ _ _ hL _ _
  exact contract H enc W base args ds gs before hval hW hL

theorem said : Rows.WindRingsSaid :=
  OpenClaim.holds_of_cond 3 Tryd.f3 rfl rfl rfl rfl rfl rfl rfl ⟨rfl, rfl, rfl, rfl, rfl⟩ rfl rfl rfl rfl rfl facts1 Tryd.func3 facts4 facts2 facts3
    (fun os started H enc _ F => by rw [OpenClaim.pre_eq_preRow]; exact lifted os started H enc F)

theorem plain (f : FuncId) (fn : Func) (hf : Tryd.pinned.checked.prog.funcNamed "annulus/annuluslaw21.WindRings" = some f) (hfn : Tryd.pinned.checked.prog.funcs[f]? = some fn) :
    false = Tryd.pinned.checked.prog.looks [] ∧ ∀ (j : Nat) t, fn.params[j]? = some t → Tryd.pinned.checked.prog.wantsStandIn t = false := by
  obtain rfl : f = 3 := Option.some.inj ((show Tryd.prog.funcNamed "annulus/annuluslaw21.WindRings" = some 3 by kernel_rfl).symm.trans hf) |>.symm
  obtain rfl : fn = Tryd.f3 := (Option.some.inj (Tryd.func3.symm.trans hfn)).symm
  refine ⟨by kernel_rfl, fun j t ht => ?_⟩
  rw [Tryd.params3] at ht
  have hm : t ∈ [5, 5, 22, 22] := by simpa using Array.mem_of_getElem? ht
  have hw := List.all_eq_true.1 (show ([5, 5, 22, 22].all fun t => !Tryd.prog.wantsStandIn t) = true by kernel_rfl) t hm
  rw [Bool.not_eq_true'] at hw
  exact hw

theorem windRings_card : Rows.WindRingsCardSaid :=
  Claim7.holds_tied_plain_at .later [] _ _ _ _ said (fun _ h => by cases h) (by kernel_rfl) (fun _ h => by cases h) windRings_row_tie rfl ⟨rfl, rfl⟩ (by kernel_rfl) rfl plain (by kernel_rfl)
end Go.Proofs.YtlhhckpjcglinaaDoor.windRings

#print axioms Go.Proofs.YtlhhckpjcglinaaDoor.windRings.windRings_card
