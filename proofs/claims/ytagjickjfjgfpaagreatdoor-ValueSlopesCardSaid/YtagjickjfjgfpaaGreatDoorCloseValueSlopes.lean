/- annulus/annuluslaw24.ValueSlopes returns true, and its arguments read afterwards as before, whatever they are, where math/bits.deBruijn32tab starts as the program lays it. Conditions: none beyond the card's. -/
import Derived.Test.YtagjickjfjgfpaaGreatDoorCards
import Derived.Test.YtagjickjfjgfpaaGreatDoorTie
import Derived.WalkKit
import Derived.ProofKit
import Derived.OpenShut
import Derived.Deep.DeepHandedRow
import Derived.Lib.LaidTab
import Derived.Test.YtagjickjfjgfpaaGreatDoorHEvR
import Derived.Test.YtagjickjfjgfpaaGreatDoorHAvXx
import Derived.Test.YtagjickjfjgfpaaGreatDoorFactsValueSlopes
namespace Go.Proofs.YtagjickjfjgfpaaGreatDoor.valueSlopes
open Go Go.ChangeShapes Go.WideShapes Go.ChangeAt Go.RowKit Go.Ev

theorem own : ownKnob Tryz.prog.godebug = none := by kernel_rfl
theorem gTab : Tryz.prog.globalNamed "math/bits.deBruijn32tab" = some 0 := by kernel_rfl
theorem gTabType : (Tryz.prog.globals[0]?).map (·.type) = some 175 := by kernel_rfl
theorem cellsT : Tryz.prog.cellsOf 175 = 32 := by kernel_rfl
theorem cellsE : Tryz.prog.cellsOf 5 = 1 := by kernel_rfl
theorem laidOut : laidOutB Tryz.prog = true := by kernel_rfl

/-- What the row's list gives: the table's cells hold its numbers. -/
theorem table {W : World} (h : laidMetH Tryz.prog Rows.valueSlopesRow.laid W) : Lib.TabIs Tryz.prog W "math/bits.deBruijn32tab" .u8 [0, 1, 28, 2, 29, 14, 24, 3, 30, 22, 20, 15, 25, 17, 4, 8, 31, 27, 13, 23, 21, 19, 16, 7, 26, 12, 18, 6, 11, 5, 10, 9] :=
  Lib.tabIs_of_head (rest := []) gTab gTabType Tryz.underlying175 Tryz.underlying5 cellsE cellsT h
theorem globs {W : World} (h : laidMetH Tryz.prog Rows.valueSlopesRow.laid W) : ∀ g, DRL (qp W) W g 0 (Ar.G0 g) := by
  have ht := table h
  intro g
  match g with
  | 0 =>
    refine acf fun j x hj => ?_
    have hj32 : j < 32 := (List.getElem?_eq_some_iff.1 hj).1
    have hc := ht.cell gTab j hj32
    rw [Nat.zero_add]
    refine ⟨(adl hc).2, _, hc, ?_⟩
    rw [show Ar.G0 0 = ([0, 1, 28, 2, 29, 14, 24, 3, 30, 22, 20, 15, 25, 17, 4, 8, 31, 27, 13, 23, 21, 19, 16, 7, 26, 12, 18, 6, 11, 5, 10, 9] : List Int).map (D.int .u8) from rfl, List.getElem?_map, Option.map_eq_some_iff] at hj
    obtain ⟨n, hn, rfl⟩ := hj
    rw [List.getD_eq_getElem?_getD, hn]
    simp only [DR, Option.getD_some]
  | n + 1 => exact trivial

set_option maxRecDepth 100000 in
theorem contract (H : Type) (enc : TypeId × Value → H) (W : World) (base : Nat) (args : Array Value) (ds gs : List (DataW H)) (before : List MemPlace)
    (hval : ∀ (j : Nat) t v, Tryz.f10.params[j]? = some t → args[j]? = some v → Value.okWide Tryz.prog W .any base t v)
    (hW : DataW.Whole enc Tryz.prog Tryz.f10.params.toList Rows.valueSlopesSpec.vars false W args.toList ds gs before) (hL : laidMetH Tryz.prog Rows.valueSlopesRow.laid W) :
    Calls Tryz.prog 10 args W fun e W' => ∃ v, e = .returned v ∧ Rows.valueSlopesSpec.post enc Tryz.prog Tryz.f10 false true false false W args v W' := by
  refine akj (tb := 4) [68, 55] [Ar.a2i, a1n] (by rw [Tryz.params10]) (by kernel_rfl) Tryz.underlying4 rfl laidOut (by kernel_rfl) (by kernel_rfl) ?_ ?_ (globs hL) hval hW
  · intro ds hds
    match ds, hds with
    | [d0, d1], _ => rfl
  · intro xs hxs
    obtain ⟨x0, _, rfl, hx0, x1, _, rfl, hx1, rfl⟩ := hxs
    obtain ⟨l0, rfl, hl0⟩ := Ar.azu hx0
    obtain ⟨r1, rfl⟩ := a2q hx1
    exact Ar.alj l0 r1 (by omega)

/-- A world for the witness: the settled one, the table (block 0) holding what its initialiser lays. -/
noncomputable def laidWorld (os : Os) : World :=
  { World.holding Tryz.prog os ⟨#[], #[], []⟩ with heap := (World.holding Tryz.prog os ⟨#[], #[], []⟩).heap.modify 0 fun
      | .cells _ t frozen => .cells #[.int .u8 0, .int .u8 1, .int .u8 28, .int .u8 2, .int .u8 29, .int .u8 14, .int .u8 24, .int .u8 3, .int .u8 30, .int .u8 22, .int .u8 20, .int .u8 15, .int .u8 25, .int .u8 17, .int .u8 4, .int .u8 8, .int .u8 31, .int .u8 27, .int .u8 13, .int .u8 23, .int .u8 21, .int .u8 19, .int .u8 16, .int .u8 7, .int .u8 26, .int .u8 12, .int .u8 18, .int .u8 6, .int .u8 11, .int .u8 5, .int .u8 10, .int .u8 9] t frozen
      | o => o }
theorem laid_met (os : Os) : laidMet Tryz.prog Rows.valueSlopesRow.laid ((laidWorld os).forCall (fun _ _ => 0) ⟨#[], #[Value.slice none 0 0, Value.agg #[.bool false, .slice none 0 0, .int .i64 0, .bool false, .slice none 0 0, .int .i64 0]], []⟩).memory :=
  laidMet_of_run' 8 (by kernel_rfl) (by kernel_rfl)
set_option maxRecDepth 100000 in
theorem reads (os : Os) {H : Type} (enc : TypeId × Value → H) : ∃ ds places, DataW.whole enc Tryz.prog ((laidWorld os).forCall (fun _ _ => 0) ⟨#[], #[Value.slice none 0 0, Value.agg #[.bool false, .slice none 0 0, .int .i64 0, .bool false, .slice none 0 0, .int .i64 0]], []⟩).memory Tryz.f10.params.toList Rows.valueSlopesSpec.vars false (#[Value.slice none 0 0, Value.agg #[.bool false, .slice none 0 0, .int .i64 0, .bool false, .slice none 0 0, .int .i64 0]] : Array Value).toList 8 = some (ds, [], places) :=
  ⟨[.nil, .agg [.agg [.agg [.lit (.bool false), .nil], .lit (.int .i64 0)], .agg [.agg [.lit (.bool false), .nil], .lit (.int .i64 0)]]], [], by kernel_rfl⟩

set_option maxRecDepth 100000 in
theorem lifted (os : Os) (started : os.Started) (H : Type) (enc : TypeId × Value → H) (F : Stop.Interp) :
    ReturnsInHanded {} Tryz.checked os 10 .any ((OpenSpec.ofChange Rows.valueSlopesSpec).preRow enc Tryz.prog Tryz.f10 Rows.valueSlopesRow.domain false Rows.valueSlopesRow.laid) (((OpenSpec.ofChange Rows.valueSlopesSpec).at F).post enc Tryz.prog Tryz.f10 false true false false) := by
  obtain ⟨ds, places, hx⟩ := reads os enc
  refine returnsInHanded_of_row (C := Tryz.checked) (s := OpenSpec.ofChange Rows.valueSlopesSpec) own started (by kernel_rfl) Tryz.func10
    (witness_row_at (enc := enc) (C := Tryz.checked) false (laidWorld os) #[Value.slice none 0 0, Value.agg #[.bool false, .slice none 0 0, .int .i64 0, .bool false, .slice none 0 0, .int .i64 0]] rfl (by kernel_rfl) (by kernel_rfl) (by kernel_rfl)
      (OpenSpec.preRow_of_cond 8 hx (by kernel_rfl) (fun k hk => by cases hk) (by kernel_rfl) (laid_met os))) ?_
  intro W base args ds gs before hval hW _ _ _ hL _ _
  exact contract H enc W base args ds gs before hval hW hL

theorem said : Rows.ValueSlopesSaid :=
  OpenClaim.holds_of_cond 10 Tryz.f10 rfl rfl rfl rfl rfl rfl rfl ⟨rfl, rfl, rfl, rfl, rfl⟩ rfl rfl rfl rfl rfl facts1 Tryz.func10 facts4 facts2 facts3
    (fun os started H enc _ F => by rw [OpenClaim.pre_eq_preRow]; exact lifted os started H enc F)

theorem plain (f : FuncId) (fn : Func) (hf : Tryz.pinned.checked.prog.funcNamed "annulus/annuluslaw24.ValueSlopes" = some f) (hfn : Tryz.pinned.checked.prog.funcs[f]? = some fn) :
    false = Tryz.pinned.checked.prog.looks [] ∧ ∀ (j : Nat) t, fn.params[j]? = some t → Tryz.pinned.checked.prog.wantsStandIn t = false := by
  obtain rfl : f = 10 := Option.some.inj ((show Tryz.prog.funcNamed "annulus/annuluslaw24.ValueSlopes" = some 10 by kernel_rfl).symm.trans hf) |>.symm
  obtain rfl : fn = Tryz.f10 := (Option.some.inj (Tryz.func10.symm.trans hfn)).symm
  refine ⟨by kernel_rfl, fun j t ht => ?_⟩
  rw [Tryz.params10] at ht
  have hm : t ∈ [68, 55] := by simpa using Array.mem_of_getElem? ht
  have hw := List.all_eq_true.1 (show ([68, 55].all fun t => !Tryz.prog.wantsStandIn t) = true by kernel_rfl) t hm
  rw [Bool.not_eq_true'] at hw
  exact hw

theorem valueSlopes_card : Rows.ValueSlopesCardSaid :=
  Claim7.holds_tied_plain_at .later [] _ _ _ _ said (fun _ h => by cases h) (by kernel_rfl) (fun _ h => by cases h) valueSlopes_row_tie rfl ⟨rfl, rfl⟩ (by kernel_rfl) rfl plain (by kernel_rfl)
end Go.Proofs.YtagjickjfjgfpaaGreatDoor.valueSlopes

#print axioms Go.Proofs.YtagjickjfjgfpaaGreatDoor.valueSlopes.valueSlopes_card
