/- annulus/annuluslaw3.DigitsSums returns true, and its arguments read afterwards as before, whatever they are, where the listed variables start as the program lays them. Conditions: none beyond the card's. -/
import Derived.Test.YtdpjainjjpjldaaDoorCards
import Derived.Test.YtdpjainjjpjldaaDoorTie
import Derived.WalkKit
import Derived.ProofKit
import Derived.OpenShut
import Derived.Deep.DeepHandedRow
import Derived.Lib.LaidTab
import Derived.LaidSub
import Derived.LaidMore
import Derived.MakeChecks
import Derived.Deep.DeepWitnessRowRef
import Derived.Test.YtdpjainjjpjldaaDoorGEvK
import Derived.Test.YtdpjainjjpjldaaDoorAtDy4
import Derived.Test.YtdpjainjjpjldaaDoorFactsDigitsSums
namespace Go.Proofs.YtdpjainjjpjldaaDoor.digitsSums
open Go Go.ChangeShapes Go.WideShapes Go.ChangeAt Go.RowKit Go.Ev

theorem own : ownKnob Tryd.prog.godebug = none := by kernel_rfl
theorem laidOut : laidOutB Tryd.prog = true := by kernel_rfl

theorem gD32 : Tryd.prog.globalNamed "math/bits.deBruijn32tab" = some 6 := by kernel_rfl
theorem fD32 : Rows.digitsSumsRow.laid.filter (fun x => x.1 == "math/bits.deBruijn32tab") = [("math/bits.deBruijn32tab", Rows.laid_math_bits_deBruijn32tab)] := by kernel_rfl
theorem tD32 {W : World} (h : laidMetH Tryd.prog Rows.digitsSumsRow.laid W) : Lib.TabIs Tryd.prog W "math/bits.deBruijn32tab" .u8 [0, 1, 28, 2, 29, 14, 24, 3, 30, 22, 20, 15, 25, 17, 4, 8, 31, 27, 13, 23, 21, 19, 16, 7, 26, 12, 18, 6, 11, 5, 10, 9] := by
  have h2 := laidMetH.filter (fun x => x.1 == "math/bits.deBruijn32tab") h
  rw [fD32] at h2
  exact Lib.tabIs_of_head (t := 131) (e := 5) (n := 32) (rest := []) gD32 (by kernel_rfl) Tryd.underlying131 Tryd.underlying5 (by kernel_rfl) (by kernel_rfl) h2
theorem gD64 : Tryd.prog.globalNamed "math/bits.deBruijn64tab" = some 7 := by kernel_rfl
theorem fD64 : Rows.digitsSumsRow.laid.filter (fun x => x.1 == "math/bits.deBruijn64tab") = [("math/bits.deBruijn64tab", Rows.laid_math_bits_deBruijn64tab)] := by kernel_rfl
theorem tD64 {W : World} (h : laidMetH Tryd.prog Rows.digitsSumsRow.laid W) : Lib.TabIs Tryd.prog W "math/bits.deBruijn64tab" .u8 [0, 1, 56, 2, 57, 49, 28, 3, 61, 58, 42, 50, 38, 29, 17, 4, 62, 47, 59, 36, 45, 43, 51, 22, 53, 39, 33, 30, 24, 18, 12, 5, 63, 55, 48, 27, 60, 41, 37, 16, 46, 35, 44, 21, 52, 32, 23, 11, 54, 26, 40, 15, 34, 20, 31, 10, 25, 14, 19, 9, 13, 8, 7, 6] := by
  have h2 := laidMetH.filter (fun x => x.1 == "math/bits.deBruijn64tab") h
  rw [fD64] at h2
  exact Lib.tabIs_of_head (t := 132) (e := 5) (n := 64) (rest := []) gD64 (by kernel_rfl) Tryd.underlying132 Tryd.underlying5 (by kernel_rfl) (by kernel_rfl) h2
theorem gP10 : Tryd.prog.globalNamed "internal/strconv.uint64pow10" = some 0 := by kernel_rfl
theorem fP10 : Rows.digitsSumsRow.laid.filter (fun x => x.1 == "internal/strconv.uint64pow10") = [("internal/strconv.uint64pow10", Rows.laid_internal_strconv_uint64pow10)] := by kernel_rfl
theorem tP10 {W : World} (h : laidMetH Tryd.prog Rows.digitsSumsRow.laid W) : Lib.TabIs Tryd.prog W "internal/strconv.uint64pow10" .u64 [1, 10, 100, 1000, 10000, 100000, 1000000, 10000000, 100000000, 1000000000, 10000000000, 100000000000, 1000000000000, 10000000000000, 100000000000000, 1000000000000000, 10000000000000000, 100000000000000000, 1000000000000000000, 10000000000000000000] := by
  have h2 := laidMetH.filter (fun x => x.1 == "internal/strconv.uint64pow10") h
  rw [fP10] at h2
  exact Lib.tabIs_of_head (t := 108) (e := 58) (n := 20) (rest := []) gP10 (by kernel_rfl) Tryd.underlying108 Tryd.underlying58 (by kernel_rfl) (by kernel_rfl) h2
theorem globs {W : World} (h : laidMetH Tryd.prog Rows.digitsSumsRow.laid W) : ∀ g, DRL (ja W) W g 0 (Ar.G0 g) := by
  intro g
  match g with
  | 0 =>
    refine ik fun j x hj => ?_
    have hj2 : j < 20 := (List.getElem?_eq_some_iff.1 hj).1
    have hc := (tP10 h).cell gP10 j hj2
    rw [Nat.zero_add]
    refine ⟨(fi hc).2, _, hc, ?_⟩
    rw [show Ar.G0 0 = ([1, 10, 100, 1000, 10000, 100000, 1000000, 10000000, 100000000, 1000000000, 10000000000, 100000000000, 1000000000000, 10000000000000, 100000000000000, 1000000000000000, 10000000000000000, 100000000000000000, 1000000000000000000, 10000000000000000000] : List Int).map (D.int .u64) from rfl, List.getElem?_map, Option.map_eq_some_iff] at hj
    obtain ⟨n, hn, rfl⟩ := hj
    rw [List.getD_eq_getElem?_getD, hn]
    simp only [DR, Option.getD_some]
  | 1 => exact trivial
  | 2 => exact trivial
  | 3 => exact trivial
  | 4 => exact trivial
  | 5 => exact trivial
  | 6 =>
    refine ik fun j x hj => ?_
    have hj2 : j < 32 := (List.getElem?_eq_some_iff.1 hj).1
    have hc := (tD32 h).cell gD32 j hj2
    rw [Nat.zero_add]
    refine ⟨(fi hc).2, _, hc, ?_⟩
    rw [show Ar.G0 6 = ([0, 1, 28, 2, 29, 14, 24, 3, 30, 22, 20, 15, 25, 17, 4, 8, 31, 27, 13, 23, 21, 19, 16, 7, 26, 12, 18, 6, 11, 5, 10, 9] : List Int).map (D.int .u8) from rfl, List.getElem?_map, Option.map_eq_some_iff] at hj
    obtain ⟨n, hn, rfl⟩ := hj
    rw [List.getD_eq_getElem?_getD, hn]
    simp only [DR, Option.getD_some]
  | 7 =>
    refine ik fun j x hj => ?_
    have hj2 : j < 64 := (List.getElem?_eq_some_iff.1 hj).1
    have hc := (tD64 h).cell gD64 j hj2
    rw [Nat.zero_add]
    refine ⟨(fi hc).2, _, hc, ?_⟩
    rw [show Ar.G0 7 = ([0, 1, 56, 2, 57, 49, 28, 3, 61, 58, 42, 50, 38, 29, 17, 4, 62, 47, 59, 36, 45, 43, 51, 22, 53, 39, 33, 30, 24, 18, 12, 5, 63, 55, 48, 27, 60, 41, 37, 16, 46, 35, 44, 21, 52, 32, 23, 11, 54, 26, 40, 15, 34, 20, 31, 10, 25, 14, 19, 9, 13, 8, 7, 6] : List Int).map (D.int .u8) from rfl, List.getElem?_map, Option.map_eq_some_iff] at hj
    obtain ⟨n, hn, rfl⟩ := hj
    rw [List.getD_eq_getElem?_getD, hn]
    simp only [DR, Option.getD_some]
  | n + 8 => exact trivial

set_option maxRecDepth 100000 in
theorem contract (H : Type) (enc : TypeId × Value → H) (W : World) (base : Nat) (args : Array Value) (ds gs : List (DataW H)) (before : List MemPlace)
    (hval : ∀ (j : Nat) t v, Tryd.f5.params[j]? = some t → args[j]? = some v → Value.okWide Tryd.prog W .any base t v)
    (hW : DataW.Whole enc Tryd.prog Tryd.f5.params.toList Rows.digitsSumsSpec.vars false W args.toList ds gs before) (hL : laidMetH Tryd.prog Rows.digitsSumsRow.laid W) :
    Calls Tryd.prog 5 args W fun e W' => ∃ v, e = .returned v ∧ Rows.digitsSumsSpec.post enc Tryd.prog Tryd.f5 false true false false W args v W' := by
  refine mo (tb := 4) [22, 4, 5] [aab, .bool, .int .u8] (by rw [Tryd.params5]) (by kernel_rfl) Tryd.underlying4 rfl laidOut (by kernel_rfl) (by kernel_rfl) ?_ ?_ (globs hL) hval hW
  · intro ds hds
    match ds, hds with
    | [d0, d1, d2], _ => rfl
  · intro xs hxs
    obtain ⟨x0, _, rfl, hx0, x1, _, rfl, hx1, x2, _, rfl, hx2, rfl⟩ := hxs
    obtain ⟨l0, rfl, hl0⟩ := Ar.agt hx0
    obtain ⟨b1, rfl⟩ := Ar.aao hx1
    obtain ⟨n2, rfl, hn2⟩ := aeb hx2
    have hm2 : (0 : Int) ≤ n2 ∧ n2 ≤ 255 := ⟨hn2.1, hn2.2⟩
    exact Ar.vg l0 b1 n2 (by omega) hm2

/-- A world for the witness: what the variables' door leaves, and the table that is laid by its text. -/
noncomputable def laidWorld (os : Os) : World :=
  { World.doorLaid Tryd.prog 72 os with heap := (World.doorLaid Tryd.prog 72 os).heap.modify 2 fun
      | .cells _ t frozen => .cells (Go.Pinned.utf8FirstZ.map fun (n : Nat) => Value.int .u8 (n : Int)).toArray t frozen
      | o => o }
theorem laid_met (os : Os) : laidMet Tryd.prog Rows.digitsSumsRow.laid ((laidWorld os).forCall (fun _ _ => 0) ⟨#[], #[Value.slice none 0 0, Value.bool false, Value.int .u8 0], []⟩).memory :=
  laidMet_of_run' 8 (by kernel_rfl) (by kernel_rfl)
set_option maxRecDepth 100000 in
theorem reads (os : Os) {H : Type} (enc : TypeId × Value → H) : ∃ ds places, DataW.whole enc Tryd.prog ((laidWorld os).forCall (fun _ _ => 0) ⟨#[], #[Value.slice none 0 0, Value.bool false, Value.int .u8 0], []⟩).memory Tryd.f5.params.toList Rows.digitsSumsSpec.vars false (#[Value.slice none 0 0, Value.bool false, Value.int .u8 0] : Array Value).toList 8 = some (ds, [], places) :=
  ⟨[.nil, .lit (.bool false), .lit (.int .u8 0)], [], by kernel_rfl⟩

theorem wit1 (os : Os) : World.variablesRefB Tryd.checked.prog ((laidWorld os).forCall (fun _ _ => 0) ⟨#[], #[Value.slice none 0 0, Value.bool false, Value.int .u8 0], []⟩) = true := by kernel_rfl
theorem wit2 (os : Os) : (((laidWorld os).forCall (fun _ _ => 0) ⟨#[], #[Value.slice none 0 0, Value.bool false, Value.int .u8 0], []⟩).heap.toList.drop Tryd.checked.prog.globals.size).take ((begin Tryd.checked.prog (fun _ _ => 0) default).world.heap.size - Tryd.checked.prog.globals.size) =
      (begin Tryd.checked.prog (fun _ _ => 0) default).world.heap.toList.drop Tryd.checked.prog.globals.size := by kernel_rfl
theorem wit3 (os : Os) : Input.okWideB Tryd.checked.prog ((laidWorld os).forCall (fun _ _ => 0) ⟨#[], #[Value.slice none 0 0, Value.bool false, Value.int .u8 0], []⟩) 5 ⟨#[], #[Value.slice none 0 0, Value.bool false, Value.int .u8 0], []⟩ = true := by kernel_rfl

set_option maxRecDepth 100000 in
theorem lifted (os : Os) (started : os.Started) (H : Type) (enc : TypeId × Value → H) (F : Stop.Interp) :
    ReturnsInHanded {} Tryd.checked os 5 .any ((OpenSpec.ofChange Rows.digitsSumsSpec).preRow enc Tryd.prog Tryd.f5 Rows.digitsSumsRow.domain false Rows.digitsSumsRow.laid) (((OpenSpec.ofChange Rows.digitsSumsSpec).at F).post enc Tryd.prog Tryd.f5 false true false false) := by
  obtain ⟨ds, places, hx⟩ := reads os enc
  refine returnsInHanded_of_row (C := Tryd.checked) (s := OpenSpec.ofChange Rows.digitsSumsSpec) own started (by kernel_rfl) Tryd.func5
    (witness_row_atRef (enc := enc) (C := Tryd.checked) false (laidWorld os) #[Value.slice none 0 0, Value.bool false, Value.int .u8 0] rfl (wit1 os) (wit2 os) (wit3 os)
      (OpenSpec.preRow_of_cond 8 hx (by kernel_rfl) (fun k hk => by cases hk) (by kernel_rfl) (laid_met os))) ?_
  intro W base args ds gs before hval hW _ _ _ hL _ _
  exact contract H enc W base args ds gs before hval hW hL

theorem said : Rows.DigitsSumsSaid :=
  OpenClaim.holds_of_cond 5 Tryd.f5 rfl rfl rfl rfl rfl rfl rfl ⟨rfl, rfl, rfl, rfl, rfl⟩ rfl rfl rfl rfl rfl facts1 Tryd.func5 facts4 facts2 facts3
    (fun os started H enc _ F => by rw [OpenClaim.pre_eq_preRow]; exact lifted os started H enc F)

theorem plain (f : FuncId) (fn : Func) (hf : Tryd.pinned.checked.prog.funcNamed "annulus/annuluslaw3.DigitsSums" = some f) (hfn : Tryd.pinned.checked.prog.funcs[f]? = some fn) :
    true = Tryd.pinned.checked.prog.looks [] ∧ ∀ (j : Nat) t, fn.params[j]? = some t → Tryd.pinned.checked.prog.wantsStandIn t = false := by
  obtain rfl : f = 5 := Option.some.inj ((show Tryd.prog.funcNamed "annulus/annuluslaw3.DigitsSums" = some 5 by kernel_rfl).symm.trans hf) |>.symm
  obtain rfl : fn = Tryd.f5 := (Option.some.inj (Tryd.func5.symm.trans hfn)).symm
  refine ⟨by kernel_rfl, fun j t ht => ?_⟩
  rw [Tryd.params5] at ht
  have hm : t ∈ [22, 4, 5] := by simpa using Array.mem_of_getElem? ht
  have hw := List.all_eq_true.1 (show ([22, 4, 5].all fun t => !Tryd.prog.wantsStandIn t) = true by kernel_rfl) t hm
  rw [Bool.not_eq_true'] at hw
  exact hw

theorem digitsSums_card : Rows.DigitsSumsCardSaid :=
  Claim7.holds_tied_plain_at .later [] _ _ _ _ said (fun _ h => by cases h) (by kernel_rfl) (fun _ h => by cases h) digitsSums_row_tie rfl ⟨rfl, rfl⟩ (by kernel_rfl) rfl plain (by kernel_rfl)
end Go.Proofs.YtdpjainjjpjldaaDoor.digitsSums

#print axioms Go.Proofs.YtdpjainjjpjldaaDoor.digitsSums.digitsSums_card
