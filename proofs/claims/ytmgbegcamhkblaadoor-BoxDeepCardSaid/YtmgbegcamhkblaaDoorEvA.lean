/- Values as data: what a walk knows of memory. -/
import Derived.WalkKit
import Derived.Orders
import Derived.KernelRfl
set_option linter.unusedSimpArgs false
set_option linter.unusedVariables false
namespace Go.Ev
open Go

/-- Data: what a value is, without addresses. -/
inductive D where
  | any
  | bool (b : Bool)
  | int (k : IntKind) (n : Int)
  | str (s : ByteArray)
  | raw (v : Value)
  | nil
  | slice (n : Nat) (cells : List D)
  | agg (cells : List D)
  | tup (vs : List D)

/-- The cells that may no longer turn. -/
abbrev Imm := Nat → Nat → Prop

mutual
def DR (S : Imm) (w : World) : D → Value → Prop
  | .any, _ => True
  | .bool b, v => v = .bool b
  | .int k n, v => v = .int k n
  | .str s, v => v = .string s
  | .raw u, v => v = u
  | .nil, v => v = .slice none 0 0
  | .slice n cells, v => ∃ a c, v = .slice a n c ∧ n ≤ c ∧ (cells = [] ∨ ∃ b o, a = some ⟨b, o, none⟩ ∧ DRL S w b o cells)
  | .agg cells, v => ∃ vs, v = .agg vs ∧ DRs S w cells vs.toList
  | .tup cells, v => ∃ vs, v = .tuple vs ∧ DRs S w cells vs.toList
def DRL (S : Imm) (w : World) (b : Nat) : Nat → List D → Prop
  | _, [] => True
  | o, x :: xs => S b o ∧ (∃ u, w.cell? ⟨b, o, none⟩ = some u ∧ DR S w x u) ∧ DRL S w b (o + 1) xs
def DRs (S : Imm) (w : World) : List D → List Value → Prop
  | [], vs => vs = []
  | x :: xs, vs => ∃ u us, vs = u :: us ∧ DR S w x u ∧ DRs S w xs us
end

/-- w' has what S holds of w. -/
def Keeps (S : Imm) (w w' : World) : Prop := ∀ b o, S b o → w'.cell? ⟨b, o, none⟩ = w.cell? ⟨b, o, none⟩
def Imm.le (S S' : Imm) : Prop := ∀ b o, S b o → S' b o

mutual
theorem DR.mono {S S' : Imm} {w w' : World} (hS : S.le S') (hw : Keeps S w w') : ∀ {x : D} {v : Value}, DR S w x v → DR S' w' x v
  | .any, _, _ => by simp [DR]
  | .bool b, v, h => by simpa [DR] using h
  | .int k n, v, h => by simpa [DR] using h
  | .str s, v, h => by simpa [DR] using h
  | .raw u, v, h => by simpa [DR] using h
  | .nil, v, h => by simpa [DR] using h
  | .slice n cells, v, h => by
    simp only [DR] at h ⊢
    obtain ⟨a, c, hv, hc, h⟩ := h
    refine ⟨a, c, hv, hc, ?_⟩
    rcases h with h | ⟨b, o, ha, hl⟩
    · exact .inl h
    · exact .inr ⟨b, o, ha, DRL.mono hS hw hl⟩
  | .agg cells, v, h => by
    simp only [DR] at h ⊢
    obtain ⟨vs, hv, h⟩ := h
    exact ⟨vs, hv, DRs.mono hS hw h⟩
  | .tup cells, v, h => by
    simp only [DR] at h ⊢
    obtain ⟨vs, hv, h⟩ := h
    exact ⟨vs, hv, DRs.mono hS hw h⟩
theorem DRL.mono {S S' : Imm} {w w' : World} (hS : S.le S') (hw : Keeps S w w') {b : Nat} : ∀ {l : List D} {o : Nat}, DRL S w b o l → DRL S' w' b o l
  | [], _, _ => by simp [DRL]
  | x :: xs, o, h => by
    simp only [DRL] at h ⊢
    obtain ⟨h1, ⟨u, hu, hx⟩, h3⟩ := h
    exact ⟨hS _ _ h1, ⟨u, (hw _ _ h1).trans hu, DR.mono hS hw hx⟩, DRL.mono hS hw h3⟩
theorem DRs.mono {S S' : Imm} {w w' : World} (hS : S.le S') (hw : Keeps S w w') : ∀ {l : List D} {vs : List Value}, DRs S w l vs → DRs S' w' l vs
  | [], _, h => by simpa [DRs] using h
  | x :: xs, vs, h => by
    simp only [DRs] at h ⊢
    obtain ⟨u, us, rfl, hx, h3⟩ := h
    exact ⟨u, us, rfl, DR.mono hS hw hx, DRs.mono hS hw h3⟩
end

theorem DRL_get {S : Imm} {w : World} {b : Nat} : ∀ {l : List D} {o : Nat}, DRL S w b o l → ∀ {j : Nat} {x : D}, l[j]? = some x → S b (o + j) ∧ ∃ u, w.cell? ⟨b, o + j, none⟩ = some u ∧ DR S w x u
  | [], _, _, _, _, h => by simp at h
  | y :: ys, o, h, 0, x, hx => by
    simp only [DRL] at h
    simp at hx; subst hx
    exact ⟨h.1, h.2.1⟩
  | y :: ys, o, h, j + 1, x, hx => by
    simp only [DRL] at h
    have := DRL_get h.2.2 (j := j) (x := x) (by simpa using hx)
    have e : o + 1 + j = o + (j + 1) := by omega
    rwa [e] at this
theorem DRL_mk {S : Imm} {w : World} {b : Nat} : ∀ {l : List D} {o : Nat}, (∀ (j : Nat) (x : D), l[j]? = some x → S b (o + j) ∧ ∃ u, w.cell? ⟨b, o + j, none⟩ = some u ∧ DR S w x u) → DRL S w b o l
  | [], _, _ => by simp [DRL]
  | y :: ys, o, h => by
    simp only [DRL]
    refine ⟨(h 0 y rfl).1, (h 0 y rfl).2, DRL_mk fun j x hx => ?_⟩
    have := h (j + 1) x (by simpa using hx)
    have e : o + 1 + j = o + (j + 1) := by omega
    rwa [e]
theorem DRL_drop {S : Imm} {w : World} {b o : Nat} {l : List D} (h : DRL S w b o l) (n : Nat) : DRL S w b (o + n) (l.drop n) :=
  DRL_mk fun j x hx => by
    have := DRL_get h (j := n + j) (x := x) (by simpa using hx)
    rwa [Nat.add_assoc]
theorem DRL_take {S : Imm} {w : World} {b o : Nat} {l : List D} (h : DRL S w b o l) (n : Nat) : DRL S w b o (l.take n) :=
  DRL_mk fun j x hx => DRL_get h (by
    rw [List.getElem?_take] at hx
    split at hx
    · exact hx
    · simp at hx)

theorem DRs_length {S : Imm} {w : World} : ∀ {l : List D} {vs : List Value}, DRs S w l vs → vs.length = l.length
  | [], _, h => by simp only [DRs] at h; simp [h]
  | x :: xs, vs, h => by
    simp only [DRs] at h
    obtain ⟨u, us, rfl, _, h3⟩ := h
    simp [DRs_length h3]
theorem DRs_get {S : Imm} {w : World} : ∀ {l : List D} {vs : List Value}, DRs S w l vs → ∀ {j : Nat} {x : D}, l[j]? = some x → ∃ u, vs[j]? = some u ∧ DR S w x u
  | [], _, _, _, _, h => by simp at h
  | y :: ys, vs, h, 0, x, hx => by
    simp only [DRs] at h
    obtain ⟨u, us, rfl, h1, _⟩ := h
    simp at hx; subst hx
    exact ⟨u, rfl, h1⟩
  | y :: ys, vs, h, j + 1, x, hx => by
    simp only [DRs] at h
    obtain ⟨u, us, rfl, _, h3⟩ := h
    simpa using DRs_get h3 (j := j) (x := x) (by simpa using hx)
theorem DRs_mk {S : Imm} {w : World} : ∀ {l : List D} {vs : List Value}, vs.length = l.length → (∀ (j : Nat) (x : D) (u : Value), l[j]? = some x → vs[j]? = some u → DR S w x u) → DRs S w l vs
  | [], vs, hl, _ => by simp only [DRs]; simpa using hl
  | y :: ys, [], hl, _ => by simp at hl
  | y :: ys, v :: vs, hl, h => by
    simp only [DRs]
    exact ⟨v, vs, rfl, h 0 y v rfl rfl, DRs_mk (by simpa using hl) fun j x u hx hu => h (j + 1) x u (by simpa using hx) (by simpa using hu)⟩

/-- What a slot, or a cell of the call's own, holds: data, or the address of memory that is the call's own. -/
inductive A where
  | d (x : D)
  | ptr (b o : Nat)
  | elem (cells : List D)
  | own (b o n sz : Nat)
  | agg (cells : List A)

abbrev Own := Nat → Option (Option Nat)

mutual
def AR (β : Own) (S : Imm) (w : World) : A → Value → Prop
  | .d x, v => DR S w x v
  | .ptr b o, v => ∃ k, β b = some (some k) ∧ v = .pointer (some ⟨k, o, none⟩)
  | .elem cells, v => ∃ k o, v = .pointer (some ⟨k, o, none⟩) ∧ DRL S w k o cells
  | .own b o n sz, v => (∃ k, β b = some (some k) ∧ ∃ c C T fr, v = .slice (some ⟨k, o, none⟩) n c ∧ n ≤ c ∧ w.heap[k]? = some (.cells C T fr) ∧ o + c * sz ≤ C.size) ∨ (n = 0 ∧ β b ≠ none ∧ ∃ a, v = .slice a 0 0)
  | .agg l, v => ∃ vs, v = .agg vs ∧ ARs β S w l vs.toList
def ARs (β : Own) (S : Imm) (w : World) : List A → List Value → Prop
  | [], vs => vs = []
  | x :: xs, vs => ∃ u us, vs = u :: us ∧ AR β S w x u ∧ ARs β S w xs us
end

/-- Blocks keep their size and their kind. -/
def Shapes (w w' : World) : Prop := ∀ (k : Nat) C T fr, w.heap[k]? = some (.cells C T fr) → ∃ C', w'.heap[k]? = some (.cells C' T fr) ∧ C'.size = C.size
def Own.le (β β' : Own) : Prop := ∀ b k, β b = some k → β' b = some k
theorem Own.le.ne {β β' : Own} (h : β.le β') {b : Nat} (hb : β b ≠ none) : β' b ≠ none := by
  cases hk : β b with
  | none => exact absurd hk hb
  | some k => rw [h b k hk]; simp

mutual
theorem AR.mono {β β' : Own} {S S' : Imm} {w w' : World} (hβ : β.le β') (hS : S.le S') (hw : Keeps S w w') (hs : Shapes w w') : ∀ {x : A} {v : Value}, AR β S w x v → AR β' S' w' x v
  | .d x, v, h => by simp only [AR] at h ⊢; exact DR.mono hS hw h
  | .ptr b o, v, h => by
    simp only [AR] at h ⊢
    obtain ⟨k, hk, hv⟩ := h
    exact ⟨k, hβ _ _ hk, hv⟩
  | .elem cells, v, h => by
    simp only [AR] at h ⊢
    obtain ⟨k, o, hv, h⟩ := h
    exact ⟨k, o, hv, DRL.mono hS hw h⟩
  | .own b o n sz, v, h => by
    simp only [AR] at h ⊢
    rcases h with ⟨k, hk, c, C, T, fr, hv, hc, hC, hl⟩ | h
    · obtain ⟨C', hC', hsz⟩ := hs k C T fr hC
      exact .inl ⟨k, hβ _ _ hk, c, C', T, fr, hv, hc, hC', by omega⟩
    · exact .inr ⟨h.1, hβ.ne h.2.1, h.2.2⟩
  | .agg l, v, h => by
    simp only [AR] at h ⊢
    obtain ⟨vs, hv, h⟩ := h
    exact ⟨vs, hv, ARs.mono hβ hS hw hs h⟩
theorem ARs.mono {β β' : Own} {S S' : Imm} {w w' : World} (hβ : β.le β') (hS : S.le S') (hw : Keeps S w w') (hs : Shapes w w') : ∀ {l : List A} {vs : List Value}, ARs β S w l vs → ARs β' S' w' l vs
  | [], _, h => by simpa [ARs] using h
  | x :: xs, vs, h => by
    simp only [ARs] at h ⊢
    obtain ⟨u, us, rfl, hx, h3⟩ := h
    exact ⟨u, us, rfl, AR.mono hβ hS hw hs hx, ARs.mono hβ hS hw hs h3⟩
end

theorem ARs_length {β : Own} {S : Imm} {w : World} : ∀ {l : List A} {vs : List Value}, ARs β S w l vs → vs.length = l.length
  | [], _, h => by simp only [ARs] at h; simp [h]
  | x :: xs, vs, h => by
    simp only [ARs] at h
    obtain ⟨u, us, rfl, _, h3⟩ := h
    simp [ARs_length h3]
theorem ARs_get {β : Own} {S : Imm} {w : World} : ∀ {l : List A} {vs : List Value}, ARs β S w l vs → ∀ {j : Nat} {x : A}, l[j]? = some x → ∃ u, vs[j]? = some u ∧ AR β S w x u
  | [], _, _, _, _, h => by simp at h
  | y :: ys, vs, h, 0, x, hx => by
    simp only [ARs] at h
    obtain ⟨u, us, rfl, h1, _⟩ := h
    simp at hx; subst hx
    exact ⟨u, rfl, h1⟩
  | y :: ys, vs, h, j + 1, x, hx => by
    simp only [ARs] at h
    obtain ⟨u, us, rfl, _, h3⟩ := h
    simpa using ARs_get h3 (j := j) (x := x) (by simpa using hx)
theorem ARs_mk {β : Own} {S : Imm} {w : World} : ∀ {l : List A} {vs : List Value}, vs.length = l.length → (∀ (j : Nat) (x : A) (u : Value), l[j]? = some x → vs[j]? = some u → AR β S w x u) → ARs β S w l vs
  | [], vs, hl, _ => by simp only [ARs]; simpa using hl
  | y :: ys, [], hl, _ => by simp at hl
  | y :: ys, v :: vs, hl, h => by
    simp only [ARs]
    exact ⟨v, vs, rfl, h 0 y v rfl rfl, ARs_mk (by simpa using hl) fun j x u hx hu => h (j + 1) x u (by simpa using hx) (by simpa using hu)⟩

/-- The cells of a value that are one by one data. -/
def allD : List A → Option (List D)
  | [] => some []
  | .d x :: l => (allD l).map (x :: ·)
  | _ :: _ => none
@[simp] theorem allD_map : ∀ (l : List D), allD (l.map A.d) = some l
  | [] => rfl
  | x :: l => by simp [allD, allD_map l]
theorem allD_eq : ∀ {l : List A} {ds : List D}, allD l = some ds → l = ds.map A.d
  | [], ds, h => by simp [allD] at h; simp [h]
  | .d x :: l, ds, h => by
    simp only [allD, Option.map_eq_some_iff] at h
    obtain ⟨e, he, rfl⟩ := h
    simp [← allD_eq he]
  | .ptr .. :: l, ds, h => by simp [allD] at h
  | .elem .. :: l, ds, h => by simp [allD] at h
  | .own .. :: l, ds, h => by simp [allD] at h
  | .agg .. :: l, ds, h => by simp [allD] at h

/-- A struct's or an array's value out of its cells. -/
def mkAgg (l : List A) : A := match allD l with
  | some ds => .d (.agg ds)
  | none => .agg l
@[simp] theorem mkAgg_map (l : List D) : mkAgg (l.map A.d) = .d (.agg l) := by simp [mkAgg]

theorem DRs_of_ARs {β : Own} {S : Imm} {w : World} {ds : List D} {vs : List Value} (h : ARs β S w (ds.map A.d) vs) : DRs S w ds vs :=
  DRs_mk (by simpa using ARs_length h) fun j x u hx hu => by
    obtain ⟨u', hu', h'⟩ := ARs_get h (j := j) (x := .d x) (by simp [hx])
    rw [hu] at hu'; cases hu'
    simpa [AR] using h'
theorem ARs_of_DRs {β : Own} {S : Imm} {w : World} {ds : List D} {vs : List Value} (h : DRs S w ds vs) : ARs β S w (ds.map A.d) vs :=
  ARs_mk (by simpa using DRs_length h) fun j x u hx hu => by
    simp only [List.getElem?_map, Option.map_eq_some_iff] at hx
    obtain ⟨y, hy, rfl⟩ := hx
    obtain ⟨u', hu', h'⟩ := DRs_get h hy
    rw [hu] at hu'; cases hu'
    simpa [AR] using h'
theorem AR_mkAgg {β : Own} {S : Imm} {w : World} {l : List A} {vs : Array Value} (h : ARs β S w l vs.toList) : AR β S w (mkAgg l) (.agg vs) := by
  unfold mkAgg
  split
  · rename_i ds hds
    rw [allD_eq hds] at h
    simp only [AR, DR]
    exact ⟨vs, rfl, DRs_of_ARs h⟩
  · simp only [AR]
    exact ⟨vs, rfl, h⟩

/-- The cells that a value fills. -/
def A.cells : A → List A
  | .d (.agg l) => l.map A.d
  | .agg l => l
  | x => [x]
/-- A value that fills one cell. -/
def A.one : A → Bool
  | .d .any | .d (.agg _) | .d (.tup _) | .agg _ => false
  | .d (.raw v) => v.oneCell'
  | _ => true
/-- A value whose cells are known. -/
def A.full : A → Bool
  | .d .any | .d (.tup _) => false
  | .d (.raw v) => v.oneCell'
  | _ => true
end Go.Ev
