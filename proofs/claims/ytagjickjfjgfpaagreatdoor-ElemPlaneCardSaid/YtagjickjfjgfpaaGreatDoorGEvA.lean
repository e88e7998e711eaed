/- Contracts of the given functions, on data. Conditions stand in each theorem. -/
import Derived.WalkKit
import Derived.Orders
import Derived.KernelRfl
set_option linter.unusedSimpArgs false
set_option linter.unusedVariables false
namespace Go.Ev
open Go

/-- Data: what a value is, without addresses. -/
inductive D where
  | any
  | bool (b : Bool)
  | int (k : IntKind) (n : Int)
  | str (s : ByteArray)
  | raw (v : Value)
  | nil
  | slice (n : Nat) (cells : List D)
  | agg (cells : List D)
  | tup (vs : List D)
  | ptrd (cells : List D)
  | fnd (f : Nat) (caps : List D)

/-- The cells that may no longer turn. -/
abbrev Imm := Nat → Nat → Prop

mutual
def DR (S : Imm) (w : World) : D → Value → Prop
  | .any, _ => True
  | .bool b, v => v = .bool b
  | .int k n, v => v = .int k n
  | .str s, v => v = .string s
  | .raw u, v => v = u
  | .nil, v => v = .slice none 0 0
  | .slice n cells, v => ∃ a c, v = .slice a n c ∧ n ≤ c ∧ (cells = [] ∨ ∃ b o, a = some ⟨b, o, none⟩ ∧ DRL S w b o cells)
  | .agg cells, v => ∃ vs, v = .agg vs ∧ DRs S w cells vs.toList
  | .tup cells, v => ∃ vs, v = .tuple vs ∧ DRs S w cells vs.toList
  | .ptrd cells, v => ∃ k o, v = .pointer (some ⟨k, o, none⟩) ∧ DRL S w k o cells
  | .fnd f cells, v => ∃ vs, v = .func (.func f) #[] vs ∧ DRs S w cells vs.toList
def DRL (S : Imm) (w : World) (b : Nat) : Nat → List D → Prop
  | _, [] => True
  | o, x :: xs => S b o ∧ (∃ u, w.cell? ⟨b, o, none⟩ = some u ∧ DR S w x u) ∧ DRL S w b (o + 1) xs
def DRs (S : Imm) (w : World) : List D → List Value → Prop
  | [], vs => vs = []
  | x :: xs, vs => ∃ u us, vs = u :: us ∧ DR S w x u ∧ DRs S w xs us
end

/-- w' has what S holds of w. -/
def Keeps (S : Imm) (w w' : World) : Prop := ∀ b o, S b o → w'.cell? ⟨b, o, none⟩ = w.cell? ⟨b, o, none⟩
def Imm.le (S S' : Imm) : Prop := ∀ b o, S b o → S' b o

mutual
theorem DR.mono {S S' : Imm} {w w' : World} (hS : S.le S') (hw : Keeps S w w') : ∀ {x : D} {v : Value}, DR S w x v → DR S' w' x v
  | .any, _, _ => by simp [DR]
  | .bool b, v, h => by simpa [DR] using h
  | .int k n, v, h => by simpa [DR] using h
  | .str s, v, h => by simpa [DR] using h
  | .raw u, v, h => by simpa [DR] using h
  | .nil, v, h => by simpa [DR] using h
  | .slice n cells, v, h => by
    simp only [DR] at h ⊢
    obtain ⟨a, c, hv, hc, h⟩ := h
    refine ⟨a, c, hv, hc, ?_⟩
    rcases h with h | ⟨b, o, ha, hl⟩
    · exact .inl h
    · exact .inr ⟨b, o, ha, DRL.mono hS hw hl⟩
  | .agg cells, v, h => by
    simp only [DR] at h ⊢
    obtain ⟨vs, hv, h⟩ := h
    exact ⟨vs, hv, DRs.mono hS hw h⟩
  | .tup cells, v, h => by
    simp only [DR] at h ⊢
    obtain ⟨vs, hv, h⟩ := h
    exact ⟨vs, hv, DRs.mono hS hw h⟩
  | .ptrd cells, v, h => by
    simp only [DR] at h ⊢
    obtain ⟨k, o, hv, h⟩ := h
    exact ⟨k, o, hv, DRL.mono hS hw h⟩
  | .fnd f cells, v, h => by
    simp only [DR] at h ⊢
    obtain ⟨vs, hv, h⟩ := h
    exact ⟨vs, hv, DRs.mono hS hw h⟩
theorem DRL.mono {S S' : Imm} {w w' : World} (hS : S.le S') (hw : Keeps S w w') {b : Nat} : ∀ {l : List D} {o : Nat}, DRL S w b o l → DRL S' w' b o l
  | [], _, _ => by simp [DRL]
  | x :: xs, o, h => by
    simp only [DRL] at h ⊢
    obtain ⟨h1, ⟨u, hu, hx⟩, h3⟩ := h
    exact ⟨hS _ _ h1, ⟨u, (hw _ _ h1).trans hu, DR.mono hS hw hx⟩, DRL.mono hS hw h3⟩
theorem DRs.mono {S S' : Imm} {w w' : World} (hS : S.le S') (hw : Keeps S w w') : ∀ {l : List D} {vs : List Value}, DRs S w l vs → DRs S' w' l vs
  | [], _, h => by simpa [DRs] using h
  | x :: xs, vs, h => by
    simp only [DRs] at h ⊢
    obtain ⟨u, us, rfl, hx, h3⟩ := h
    exact ⟨u, us, rfl, DR.mono hS hw hx, DRs.mono hS hw h3⟩
end

theorem DRL_get {S : Imm} {w : World} {b : Nat} : ∀ {l : List D} {o : Nat}, DRL S w b o l → ∀ {j : Nat} {x : D}, l[j]? = some x → S b (o + j) ∧ ∃ u, w.cell? ⟨b, o + j, none⟩ = some u ∧ DR S w x u
  | [], _, _, _, _, h => by simp at h
  | y :: ys, o, h, 0, x, hx => by
    simp only [DRL] at h
    simp at hx; subst hx
    exact ⟨h.1, h.2.1⟩
  | y :: ys, o, h, j + 1, x, hx => by
    simp only [DRL] at h
    have := DRL_get h.2.2 (j := j) (x := x) (by simpa using hx)
    have e : o + 1 + j = o + (j + 1) := by omega
    rwa [e] at this
theorem DRL_mk {S : Imm} {w : World} {b : Nat} : ∀ {l : List D} {o : Nat}, (∀ (j : Nat) (x : D), l[j]? = some x → S b (o + j) ∧ ∃ u, w.cell? ⟨b, o + j, none⟩ = some u ∧ DR S w x u) → DRL S w b o l
  | [], _, _ => by simp [DRL]
  | y :: ys, o, h => by
    simp only [DRL]
    refine ⟨(h 0 y rfl).1, (h 0 y rfl).2, DRL_mk fun j x hx => ?_⟩
    have := h (j + 1) x (by simpa using hx)
    have e : o + 1 + j = o + (j + 1) := by omega
    rwa [e]
theorem DRL_drop {S : Imm} {w : World} {b o : Nat} {l : List D} (h : DRL S w b o l) (n : Nat) : DRL S w b (o + n) (l.drop n) :=
  DRL_mk fun j x hx => by
    have := DRL_get h (j := n + j) (x := x) (by simpa using hx)
    rwa [Nat.add_assoc]
theorem DRL_take {S : Imm} {w : World} {b o : Nat} {l : List D} (h : DRL S w b o l) (n : Nat) : DRL S w b o (l.take n) :=
  DRL_mk fun j x hx => DRL_get h (by
    rw [List.getElem?_take] at hx
    split at hx
    · exact hx
    · simp at hx)

theorem DRs_length {S : Imm} {w : World} : ∀ {l : List D} {vs : List Value}, DRs S w l vs → vs.length = l.length
  | [], _, h => by simp only [DRs] at h; simp [h]
  | x :: xs, vs, h => by
    simp only [DRs] at h
    obtain ⟨u, us, rfl, _, h3⟩ := h
    simp [DRs_length h3]
theorem DRs_get {S : Imm} {w : World} : ∀ {l : List D} {vs : List Value}, DRs S w l vs → ∀ {j : Nat} {x : D}, l[j]? = some x → ∃ u, vs[j]? = some u ∧ DR S w x u
  | [], _, _, _, _, h => by simp at h
  | y :: ys, vs, h, 0, x, hx => by
    simp only [DRs] at h
    obtain ⟨u, us, rfl, h1, _⟩ := h
    simp at hx; subst hx
    exact ⟨u, rfl, h1⟩
  | y :: ys, vs, h, j + 1, x, hx => by
    simp only [DRs] at h
    obtain ⟨u, us, rfl, _, h3⟩ := h
    simpa using DRs_get h3 (j := j) (x := x) (by simpa using hx)
theorem DRs_mk {S : Imm} {w : World} : ∀ {l : List D} {vs : List Value}, vs.length = l.length → (∀ (j : Nat) (x : D) (u : Value), l[j]? = some x → vs[j]? = some u → DR S w x u) → DRs S w l vs
  | [], vs, hl, _ => by simp only [DRs]; simpa using hl
  | y :: ys, [], hl, _ => by simp at hl
  | y :: ys, v :: vs, hl, h => by
    simp only [DRs]
    exact ⟨v, vs, rfl, h 0 y v rfl rfl, DRs_mk (by simpa using hl) fun j x u hx hu => h (j + 1) x u (by simpa using hx) (by simpa using hu)⟩

/-- What a slot, or a cell of the call's own, holds: data, or the address of memory that is the call's own. -/
inductive A where
  | d (x : D)
  | ptr (b o : Nat)
  | elem (cells : List D)
  | own (b o n sz : Nat)
  | agg (cells : List A)
  | fn (f : Nat) (caps : List A)

abbrev Own := Nat → Option (Option Nat)

mutual
def AR (β : Own) (S : Imm) (w : World) : A → Value → Prop
  | .d x, v => DR S w x v
  | .ptr b o, v => ∃ k, β b = some (some k) ∧ v = .pointer (some ⟨k, o, none⟩)
  | .elem cells, v => ∃ k o, v = .pointer (some ⟨k, o, none⟩) ∧ DRL S w k o cells
  | .own b o n sz, v => (∃ k, β b = some (some k) ∧ ∃ c C T fr, v = .slice (some ⟨k, o, none⟩) n c ∧ n ≤ c ∧ w.heap[k]? = some (.cells C T fr) ∧ o + c * sz ≤ C.size) ∨ (n = 0 ∧ β b ≠ none ∧ ∃ a, v = .slice a 0 0)
  | .agg l, v => ∃ vs, v = .agg vs ∧ ARs β S w l vs.toList
  | .fn f l, v => ∃ vs, v = .func (.func f) #[] vs ∧ ARs β S w l vs.toList
def ARs (β : Own) (S : Imm) (w : World) : List A → List Value → Prop
  | [], vs => vs = []
  | x :: xs, vs => ∃ u us, vs = u :: us ∧ AR β S w x u ∧ ARs β S w xs us
end

/-- Blocks keep their size and their kind. -/
def Shapes (w w' : World) : Prop := ∀ (k : Nat) C T fr, w.heap[k]? = some (.cells C T fr) → ∃ C', w'.heap[k]? = some (.cells C' T fr) ∧ C'.size = C.size
def Own.le (β β' : Own) : Prop := ∀ b k, β b = some k → β' b = some k
theorem Own.le.ne {β β' : Own} (h : β.le β') {b : Nat} (hb : β b ≠ none) : β' b ≠ none := by
  cases hk : β b with
  | none => exact absurd hk hb
  | some k => rw [h b k hk]; simp

mutual
theorem AR.mono {β β' : Own} {S S' : Imm} {w w' : World} (hβ : β.le β') (hS : S.le S') (hw : Keeps S w w') (hs : Shapes w w') : ∀ {x : A} {v : Value}, AR β S w x v → AR β' S' w' x v
  | .d x, v, h => by simp only [AR] at h ⊢; exact DR.mono hS hw h
  | .ptr b o, v, h => by
    simp only [AR] at h ⊢
    obtain ⟨k, hk, hv⟩ := h
    exact ⟨k, hβ _ _ hk, hv⟩
  | .elem cells, v, h => by
    simp only [AR] at h ⊢
    obtain ⟨k, o, hv, h⟩ := h
    exact ⟨k, o, hv, DRL.mono hS hw h⟩
  | .own b o n sz, v, h => by
    simp only [AR] at h ⊢
    rcases h with ⟨k, hk, c, C, T, fr, hv, hc, hC, hl⟩ | h
    · obtain ⟨C', hC', hsz⟩ := hs k C T fr hC
      exact .inl ⟨k, hβ _ _ hk, c, C', T, fr, hv, hc, hC', by omega⟩
    · exact .inr ⟨h.1, hβ.ne h.2.1, h.2.2⟩
  | .agg l, v, h => by
    simp only [AR] at h ⊢
    obtain ⟨vs, hv, h⟩ := h
    exact ⟨vs, hv, ARs.mono hβ hS hw hs h⟩
  | .fn f l, v, h => by
    simp only [AR] at h ⊢
    obtain ⟨vs, hv, h⟩ := h
    exact ⟨vs, hv, ARs.mono hβ hS hw hs h⟩
theorem ARs.mono {β β' : Own} {S S' : Imm} {w w' : World} (hβ : β.le β') (hS : S.le S') (hw : Keeps S w w') (hs : Shapes w w') : ∀ {l : List A} {vs : List Value}, ARs β S w l vs → ARs β' S' w' l vs
  | [], _, h => by simpa [ARs] using h
  | x :: xs, vs, h => by
    simp only [ARs] at h ⊢
    obtain ⟨u, us, rfl, hx, h3⟩ := h
    exact ⟨u, us, rfl, AR.mono hβ hS hw hs hx, ARs.mono hβ hS hw hs h3⟩
end

theorem ARs_length {β : Own} {S : Imm} {w : World} : ∀ {l : List A} {vs : List Value}, ARs β S w l vs → vs.length = l.length
  | [], _, h => by simp only [ARs] at h; simp [h]
  | x :: xs, vs, h => by
    simp only [ARs] at h
    obtain ⟨u, us, rfl, _, h3⟩ := h
    simp [ARs_length h3]
theorem ARs_get {β : Own} {S : Imm} {w : World} : ∀ {l : List A} {vs : List Value}, ARs β S w l vs → ∀ {j : Nat} {x : A}, l[j]? = some x → ∃ u, vs[j]? = some u ∧ AR β S w x u
  | [], _, _, _, _, h => by simp at h
  | y :: ys, vs, h, 0, x, hx => by
    simp only [ARs] at h
    obtain ⟨u, us, rfl, h1, _⟩ := h
    simp at hx; subst hx
    exact ⟨u, rfl, h1⟩
  | y :: ys, vs, h, j + 1, x, hx => by
    simp only [ARs] at h
    obtain ⟨u, us, rfl, _, h3⟩ := h
    simpa using ARs_get h3 (j := j) (x := x) (by simpa using hx)
theorem ARs_mk {β : Own} {S : Imm} {w : World} : ∀ {l : List A} {vs : List Value}, vs.length = l.length → (∀ (j : Nat) (x : A) (u : Value), l[j]? = some x → vs[j]? = some u → AR β S w x u) → ARs β S w l vs
  | [], vs, hl, _ => by simp only [ARs]; simpa using hl
  | y :: ys, [], hl, _ => by simp at hl
  | y :: ys, v :: vs, hl, h => by
    simp only [ARs]
    exact ⟨v, vs, rfl, h 0 y v rfl rfl, ARs_mk (by simpa using hl) fun j x u hx hu => h (j + 1) x u (by simpa using hx) (by simpa using hu)⟩

/-- The cells of a value that are one by one data. -/
def allD : List A → Option (List D)
  | [] => some []
  | .d x :: l => (allD l).map (x :: ·)
  | _ :: _ => none
@[simp] theorem allD_map : ∀ (l : List D), allD (l.map A.d) = some l
  | [] => rfl
  | x :: l => by simp [allD, allD_map l]
theorem allD_eq : ∀ {l : List A} {ds : List D}, allD l = some ds → l = ds.map A.d
  | [], ds, h => by simp [allD] at h; simp [h]
  | .d x :: l, ds, h => by
    simp only [allD, Option.map_eq_some_iff] at h
    obtain ⟨e, he, rfl⟩ := h
    simp [← allD_eq he]
  | .ptr .. :: l, ds, h => by simp [allD] at h
  | .elem .. :: l, ds, h => by simp [allD] at h
  | .own .. :: l, ds, h => by simp [allD] at h
  | .agg .. :: l, ds, h => by simp [allD] at h
  | .fn .. :: l, ds, h => by simp [allD] at h

/-- A struct's or an array's value out of its cells. -/
def mkAgg (l : List A) : A := match allD l with
  | some ds => .d (.agg ds)
  | none => .agg l
@[simp] theorem mkAgg_map (l : List D) : mkAgg (l.map A.d) = .d (.agg l) := by simp [mkAgg]

theorem DRs_of_ARs {β : Own} {S : Imm} {w : World} {ds : List D} {vs : List Value} (h : ARs β S w (ds.map A.d) vs) : DRs S w ds vs :=
  DRs_mk (by simpa using ARs_length h) fun j x u hx hu => by
    obtain ⟨u', hu', h'⟩ := ARs_get h (j := j) (x := .d x) (by simp [hx])
    rw [hu] at hu'; cases hu'
    simpa [AR] using h'
theorem ARs_of_DRs {β : Own} {S : Imm} {w : World} {ds : List D} {vs : List Value} (h : DRs S w ds vs) : ARs β S w (ds.map A.d) vs :=
  ARs_mk (by simpa using DRs_length h) fun j x u hx hu => by
    simp only [List.getElem?_map, Option.map_eq_some_iff] at hx
    obtain ⟨y, hy, rfl⟩ := hx
    obtain ⟨u', hu', h'⟩ := DRs_get h hy
    rw [hu] at hu'; cases hu'
    simpa [AR] using h'
theorem AR_mkAgg {β : Own} {S : Imm} {w : World} {l : List A} {vs : Array Value} (h : ARs β S w l vs.toList) : AR β S w (mkAgg l) (.agg vs) := by
  unfold mkAgg
  split
  · rename_i ds hds
    rw [allD_eq hds] at h
    simp only [AR, DR]
    exact ⟨vs, rfl, DRs_of_ARs h⟩
  · simp only [AR]
    exact ⟨vs, rfl, h⟩

/-- The cells that a value fills. -/
def A.cells : A → List A
  | .d (.agg l) => l.map A.d
  | .agg l => l
  | x => [x]
/-- A value that fills one cell. -/
def A.one : A → Bool
  | .d .any | .d (.agg _) | .d (.tup _) | .d (.fnd _ _) | .agg _ | .fn _ _ => false
  | .d (.raw v) => v.oneCell'
  | _ => true
/-- A value whose cells are known. -/
def A.full : A → Bool
  | .d .any | .d (.tup _) | .d (.fnd _ _) | .fn _ _ => false
  | .d (.raw v) => v.oneCell'
  | _ => true
end Go.Ev

namespace Go.Ev
open Go

inductive ZK where
  | bool | int (k : IntKind) | str | nil | ptr | iface | func
  deriving DecidableEq
def ZK.toD : ZK → D
  | .bool => .bool false
  | .int k => .int k 0
  | .str => .str ⟨#[]⟩
  | .nil => .nil
  | .ptr => .raw (.pointer none)
  | .iface => .raw .nilIface
  | .func => .raw .nilFunc
def ZK.chk : ZK → Value → Bool
  | .bool, .bool false => true
  | .int k, .int k' 0 => k == k'
  | .str, .string s => s.data.toList.isEmpty
  | .nil, .slice none 0 0 => true
  | .ptr, .pointer none => true
  | .iface, .nilIface => true
  | .func, .nilFunc => true
  | _, _ => false
def ZK.chks : List ZK → List Value → Bool
  | [], [] => true
  | z :: zs, v :: vs => z.chk v && ZK.chks zs vs
  | _, _ => false
def ZK.val : ZK → Value
  | .bool => .bool false
  | .int k => .int k 0
  | .str => .string ⟨#[]⟩
  | .nil => .slice none 0 0
  | .ptr => .pointer none
  | .iface => .nilIface
  | .func => .nilFunc
theorem ZK.chk_val {z : ZK} {v : Value} (h : z.chk v = true) : v = z.val := by
  unfold ZK.chk at h
  split at h <;> simp_all [ZK.val]
  rename_i s
  obtain ⟨⟨l⟩⟩ := s
  simp at h
  simp [h]
theorem ZK.chks_val : ∀ {zs : List ZK} {vs : List Value}, ZK.chks zs vs = true → vs = zs.map ZK.val
  | [], [], _ => rfl
  | z :: zs, v :: vs, h => by
    simp only [ZK.chks, Bool.and_eq_true] at h
    simp [ZK.chk_val h.1, ZK.chks_val h.2]
  | [], _ :: _, h => by simp [ZK.chks] at h
  | _ :: _, [], h => by simp [ZK.chks] at h
theorem ZK.toD_val {S : Imm} {w : World} (z : ZK) : DR S w z.toD z.val := by cases z <;> simp [ZK.toD, ZK.val, DR]

inductive TK where
  | bool | int (k : IntKind) | str
  | slice (e : Nat) | array (n e : Nat)
  | struct (fs : List (Nat × Nat × Bool))   -- where, how many cells, struct or array
  | other
  deriving DecidableEq
structure Ty where
  size : Nat
  bytes : Nat
  isAgg : Bool
  k : TK
  zero : List ZK
abbrev Tab := Nat → Option Ty

def aggDesc : TypeDesc → Bool
  | .struct _ | .array _ _ => true
  | _ => false
def fieldsChk (P : Program) : List (Nat × Nat × Bool) → List Field → Bool
  | [], [] => true
  | (o, s, g) :: l, f :: fs => f.offset == o && s != 0 && (match P.info? f.type, P.underlying f.type with | some i, some d => i.size == s && aggDesc d == g | _, _ => false) && fieldsChk P l fs
  | _, _ => false
def TK.chk (P : Program) : TK → TypeDesc → Bool
  | .bool, .bool => true
  | .int k, .int k' => k == k'
  | .str, .string => true
  | .slice e, .slice e' => e == e'
  | .array n e, .array n' e' => n == n' && e == e'
  | .struct l, .struct fs => fieldsChk P l fs.toList
  | .other, .pointer _ | .other, .interface _ | .other, .func _ _ _ | .other, .tuple _ => true
  | _, _ => false
def Ty.chk (P : Program) (t : Nat) (y : Ty) : Bool :=
  match P.info? t, P.underlying t with
  | some i, some d => i.size == y.size && i.bytes == y.bytes && aggDesc d == y.isAgg && y.k.chk P d && (match i.zero with | some z => y.zero.isEmpty || ZK.chks y.zero z.cells.toList | none => y.zero.isEmpty)
  | _, _ => false
structure TabOk (P : Program) (T : Tab) : Prop where
  ty : ∀ t y, T t = some y → y.chk P t = true
  mix : P.follows .mixedOrders = true

section
variable {P : Program} {T : Tab} (hT : TabOk P T) {t : Nat} {y : Ty} (ht : T t = some y) (w : World)
include hT ht

theorem Ty.info : ∃ i d, P.info? t = some i ∧ P.underlying t = some d ∧ i.size = y.size ∧ i.bytes = y.bytes ∧ aggDesc d = y.isAgg ∧ y.k.chk P d = true ∧ (y.zero = [] ∨ ∃ z, i.zero = some z ∧ z.cells.toList = y.zero.map ZK.val) := by
  have h := hT.ty t y ht
  unfold Ty.chk at h
  split at h
  · rename_i i d hi hd
    simp only [Bool.and_eq_true, beq_iff_eq] at h
    obtain ⟨⟨⟨⟨h1, h2⟩, h3⟩, h4⟩, h5⟩ := h
    refine ⟨i, d, hi, hd, h1, h2, h3, h4, ?_⟩
    split at h5
    · rename_i z hz
      simp only [Bool.or_eq_true, List.isEmpty_iff] at h5
      rcases h5 with h5 | h5
      · exact .inl h5
      · exact .inr ⟨z, hz, ZK.chks_val h5⟩
    · exact .inl (by simpa using h5)
  · simp at h

theorem run_sizeOf' : (sizeOf t).run P w = .ok y.size w := by
  obtain ⟨i, d, hi, hd, h1, _⟩ := Ty.info hT ht
  simp [sizeOf, typeInfo, hi, h1]
theorem run_typeInfo' : ∃ i, (typeInfo t).run P w = .ok i w ∧ i.bytes = y.bytes ∧ i.size = y.size := by
  obtain ⟨i, d, hi, hd, h1, h2, _⟩ := Ty.info hT ht
  exact ⟨i, by simp [typeInfo, hi], h2, h1⟩
theorem run_isAgg' : (isAgg t).run P w = .ok y.isAgg w := by
  obtain ⟨i, d, hi, hd, h1, h2, h3, _⟩ := Ty.info hT ht
  simp only [isAgg, Sem.run_bind, run_underlying hd, Result.andThen_ok]
  rw [← h3]
  unfold aggDesc
  split <;> simp
theorem run_zero' (hz : y.zero ≠ []) : ∃ z, (zeroValue t).run P w = .ok z w ∧ z.cells.toList = y.zero.map ZK.val := by
  obtain ⟨i, d, hi, hd, h1, h2, h3, _, h4⟩ := Ty.info hT ht
  rcases h4 with h4 | ⟨z, h4, h5⟩
  · exact absurd h4 hz
  · exact ⟨z, by simp [zeroValue, typeInfo, hi, h4], h5⟩
theorem under_slice {e : Nat} (hk : y.k = .slice e) : P.underlying t = some (.slice e) := by
  obtain ⟨i, d, hi, hd, _, _, _, h, _⟩ := Ty.info hT ht
  rw [hk] at h
  unfold TK.chk at h
  split at h <;> simp_all
theorem under_array {n e : Nat} (hk : y.k = .array n e) : P.underlying t = some (.array n e) := by
  obtain ⟨i, d, hi, hd, _, _, _, h, _⟩ := Ty.info hT ht
  rw [hk] at h
  unfold TK.chk at h
  split at h <;> simp_all
theorem under_int {k : IntKind} (hk : y.k = .int k) : P.underlying t = some (.int k) := by
  obtain ⟨i, d, hi, hd, _, _, _, h, _⟩ := Ty.info hT ht
  rw [hk] at h
  unfold TK.chk at h
  split at h <;> simp_all
theorem under_bool (hk : y.k = .bool) : P.underlying t = some .bool := by
  obtain ⟨i, d, hi, hd, _, _, _, h, _⟩ := Ty.info hT ht
  rw [hk] at h
  unfold TK.chk at h
  split at h <;> simp_all
theorem under_str (hk : y.k = .str) : P.underlying t = some .string := by
  obtain ⟨i, d, hi, hd, _, _, _, h, _⟩ := Ty.info hT ht
  rw [hk] at h
  unfold TK.chk at h
  split at h <;> simp_all
omit hT ht in
theorem fieldsChk_get {P : Program} : ∀ {l : List (Nat × Nat × Bool)} {fs : List Field}, fieldsChk P l fs = true → ∀ {f o s : Nat} {g : Bool}, l[f]? = some (o, s, g) → ∃ F, fs[f]? = some F ∧ F.offset = o ∧ s ≠ 0 ∧ ∃ i d, P.info? F.type = some i ∧ P.underlying F.type = some d ∧ i.size = s ∧ aggDesc d = g
  | [], [], _, f, o, s, g, h => by simp at h
  | (o', s', g') :: l, F :: fs, hc, 0, o, s, g, h => by
    simp at h
    obtain ⟨rfl, rfl, rfl⟩ := h
    simp only [fieldsChk, Bool.and_eq_true, beq_iff_eq] at hc
    obtain ⟨⟨⟨h1, h2⟩, h3⟩, h4⟩ := hc
    split at h3
    · rename_i i d hi hd
      simp at h3
      exact ⟨F, rfl, h1, by simpa using h2, i, d, hi, hd, h3.1, h3.2⟩
    · simp at h3
  | (o', s', g') :: l, F :: fs, hc, f + 1, o, s, g, h => by
    simp only [fieldsChk, Bool.and_eq_true] at hc
    obtain ⟨F', h1, h2⟩ := fieldsChk_get hc.2 (f := f) (by simpa using h)
    exact ⟨F', by simpa using h1, h2⟩
  | [], _ :: _, h, _, _, _, _, _ => by simp [fieldsChk] at h
  | _ :: _, [], h, _, _, _, _, _ => by simp [fieldsChk] at h
theorem under_struct {l : List (Nat × Nat × Bool)} (hk : y.k = .struct l) : ∃ fs, P.underlying t = some (.struct fs) ∧ ∀ {f o s : Nat} {g : Bool}, l[f]? = some (o, s, g) → ∃ F, fs[f]? = some F ∧ F.offset = o ∧ s ≠ 0 ∧ ∃ i d, P.info? F.type = some i ∧ P.underlying F.type = some d ∧ i.size = s ∧ aggDesc d = g := by
  obtain ⟨i, d, hi, hd, _, _, _, h, _⟩ := Ty.info hT ht
  rw [hk] at h
  have key : ∃ fs, d = .struct fs ∧ fieldsChk P l fs.toList = true := by
    cases d <;> first | (simp [TK.chk] at h; done) | exact ⟨_, rfl, by simpa [TK.chk] using h⟩
  obtain ⟨fs, rfl, hc⟩ := key
  refine ⟨fs, hd, fun {f o s g} hf => ?_⟩
  obtain ⟨F, h1, h2⟩ := fieldsChk_get hc hf
  exact ⟨F, by simpa using h1, h2⟩
end

/-- The n-th of a list. -/
def nth {α : Type} (d : α) : List α → Nat → α
  | [], _ => d
  | x :: _, 0 => x
  | _ :: l, n + 1 => nth d l n
theorem nth_get {α : Type} {d : α} : ∀ {l : List α} {n : Nat}, n < l.length → l[n]? = some (nth d l n)
  | [], n, h => by simp at h
  | x :: l, 0, _ => rfl
  | x :: l, n + 1, h => by simpa [nth] using nth_get (l := l) (n := n) (by simpa using h)

/-- One after another, from a place on, put in. -/
def setAt {α : Type} : List α → Nat → List α → List α
  | l, _, [] => l
  | l, o, x :: xs => setAt (l.set o x) (o + 1) xs
theorem length_setAt {α : Type} : ∀ (xs l : List α) (o : Nat), (setAt l o xs).length = l.length
  | [], l, o => rfl
  | x :: xs, l, o => by simp [setAt, length_setAt xs]

def constD : Value → D
  | .bool b => .bool b
  | .int k n => .int k n
  | .string s => .str s
  | .slice none 0 0 => .nil
  | v => .raw v
def constA : Value → A
  | .agg cs => .d (.agg (cs.toList.map constD))
  | v => .d (constD v)
theorem DR_const {S : Imm} {w : World} (v : Value) : DR S w (constD v) v := by
  unfold constD
  split <;> simp [DR]
theorem AR_const {β : Own} {S : Imm} {w : World} (v : Value) : AR β S w (constA v) v := by
  unfold constA
  split
  · rename_i cs
    simp only [AR, DR]
    refine ⟨cs, rfl, DRs_mk (by simp) fun j x u hx hu => ?_⟩
    simp only [List.getElem?_map, Option.map_eq_some_iff] at hx
    obtain ⟨u', hu', rfl⟩ := hx
    rw [hu] at hu'; cases hu'
    exact DR_const u
  · simp only [AR]; exact DR_const v
end Go.Ev

namespace Go.Ev
open Go

/-- A side condition, and what comes behind it. -/
structure Cd (c k : Prop) : Prop where
  c : c
  k : k
/-- A branch. -/
structure Br (t : Bool) (a b : Prop) : Prop where
  tt : t = true → a
  ff : t = false → b
/-- A branch on what can be decided. -/
theorem Br.dec {p : Prop} [Decidable p] {a b : Prop} (ha : p → a) (hb : ¬ p → b) : Br (decide p) a b := ⟨fun h => ha (of_decide_eq_true h), fun h => hb (of_decide_eq_false h)⟩
theorem Br.ndec {p : Prop} [Decidable p] {a b : Prop} (ha : ¬ p → a) (hb : p → b) : Br (!decide p) a b := ⟨fun h => ha (of_decide_eq_false (by simpa using h)), fun h => hb (of_decide_eq_true (by simpa using h))⟩
theorem Br.not {t : Bool} {a b : Prop} (h : Br t b a) : Br (!t) a b := ⟨fun e => h.ff (by simpa using e), fun e => h.tt (by simpa using e)⟩
theorem Br.t {a b : Prop} (h : a) : Br true a b := ⟨fun _ => h, (fun e => nomatch e)⟩
theorem Br.f {a b : Prop} (h : b) : Br false a b := ⟨(fun e => nomatch e), fun _ => h⟩
/-- The n-th there is. -/
inductive NthE {α : Type} (l : List α) (i : Nat) (K : α → Prop) : Prop where
  | mk (x : α) (h : l[i]? = some x) (k : K x)
/-- So many from a place on. -/
inductive TkE {α : Type} (l : List α) (o s : Nat) (K : List α → Prop) : Prop where
  | mk (xs : List α) (h : (l.drop o).take s = xs) (hl : xs.length = s) (k : K xs)
/-- The same, written otherwise. -/
inductive EqE {α : Type} (x : α) (K : α → Prop) : Prop where
  | mk (y : α) (h : x = y) (k : K y)
/-- Cells that are data. -/
inductive DsE (l : List A) (K : List D → Prop) : Prop where
  | mk (ds : List D) (h : l = ds.map A.d) (k : K ds)

def Ty.isSl (y : Ty) : Bool := match y.k with | .slice _ => true | _ => false
def intBin (op : BinOp) (k : IntKind) (x y : Int) (K : A → Prop) : Prop :=
  match op with
  | .add => EqE (k.wrap (x + y)) fun z => K (.d (.int k z))
  | .sub => EqE (k.wrap (x - y)) fun z => K (.d (.int k z))
  | .mul => EqE (k.wrap (x * y)) fun z => K (.d (.int k z))
  | .quo => Cd (y ≠ 0) (EqE (k.wrap (x.tdiv y)) fun z => K (.d (.int k z)))
  | .rem => Cd (y ≠ 0) (EqE (x.tmod y) fun z => K (.d (.int k z)))
  | .and => EqE (k.wrap (BitVec.ofInt k.bits x &&& BitVec.ofInt k.bits y).toNat) fun z => K (.d (.int k z))
  | .or => EqE (k.wrap (BitVec.ofInt k.bits x ||| BitVec.ofInt k.bits y).toNat) fun z => K (.d (.int k z))
  | .xor => EqE (k.wrap (BitVec.ofInt k.bits x ^^^ BitVec.ofInt k.bits y).toNat) fun z => K (.d (.int k z))
  | .andNot => EqE (k.wrap (BitVec.ofInt k.bits x &&& ~~~ BitVec.ofInt k.bits y).toNat) fun z => K (.d (.int k z))
  | .eql => K (.d (.bool (decide (x = y))))
  | .neq => K (.d (.bool (!decide (x = y))))
  | .lss => K (.d (.bool (decide (x < y))))
  | .leq => K (.d (.bool (decide (x ≤ y))))
  | .gtr => K (.d (.bool (decide (x > y))))
  | .geq => K (.d (.bool (decide (x ≥ y))))
  | .shl | .shr => False

def binEv (T : Tab) (op : BinOp) (xT : Nat) (a b : A) (K : A → Prop) : Prop :=
  match a, b with
  | .d (.int k x), .d (.int k' y) =>
    match op with
    | .shl => Cd (0 ≤ y) (EqE (k.wrap (x * 2 ^ min y.toNat k.bits)) fun z => K (.d (.int k z)))
    | .shr => Cd (0 ≤ y) (EqE (x.fdiv (2 ^ min y.toNat k.bits)) fun z => K (.d (.int k z)))
    | op => Cd (k = k') (intBin op k x y K)
  | .d (.bool x), .d (.bool y) =>
    Cd ((T xT).any (·.k = .bool) = true) (match op with
      | .eql => K (.d (.bool (x == y)))
      | .neq => K (.d (.bool (!(x == y))))
      | _ => False)
  | .d (.str x), .d (.str y) =>
    match op with
    | .add => Cd (x.size + y.size ≤ 2 ^ 60) (K (.d (.str (x ++ y))))
    | .eql => K (.d (.bool (x.toList == y.toList)))
    | .neq => K (.d (.bool (!(x.toList == y.toList))))
    | .lss => K (.d (.bool (Op.bytesLess x.toList y.toList)))
    | .gtr => K (.d (.bool (!(Op.bytesLess x.toList y.toList || x.toList == y.toList))))
    | .leq => K (.d (.bool (Op.bytesLess x.toList y.toList || x.toList == y.toList)))
    | .geq => K (.d (.bool (!Op.bytesLess x.toList y.toList)))
    | _ => False
  | .d (.slice _ cells), .d .nil =>
    Cd ((T xT).any Ty.isSl = true) (match op with
      | .eql => (cells = [] → K (.d (.bool true))) ∧ K (.d (.bool false))
      | .neq => (cells = [] → K (.d (.bool false))) ∧ K (.d (.bool true))
      | _ => False)
  | _, _ => False

def unEv (op : UnOp) (a : A) (K : A → Prop) : Prop :=
  match op, a with
  | .neg, .d (.int k n) => EqE (k.wrap (0 - n)) fun z => K (.d (.int k z))
  | .xor, .d (.int k n) => EqE (k.wrap (BitVec.ofInt k.bits (if k.signed then -1 else k.max) ^^^ BitVec.ofInt k.bits n).toNat) fun z => K (.d (.int k z))
  | .not, .d (.bool b) => K (.d (.bool !b))
  | _, _ => False

def tySlice (T : Tab) (t : Nat) (K : Nat → Ty → Prop) : Prop :=
  match T t with
  | some y => match y.k with
    | .slice e => match T e with
      | some ye => K e ye
      | none => False
    | _ => False
  | none => False
def tyArray (T : Tab) (t : Nat) (K : Nat → Nat → Ty → Prop) : Prop :=
  match T t with
  | some y => match y.k with
    | .array n e => match T e with
      | some ye => K n e ye
      | none => False
    | _ => False
  | none => False
def tyStruct (T : Tab) (t : Nat) (K : List (Nat × Nat × Bool) → Prop) : Prop :=
  match T t with
  | some y => match y.k with
    | .struct l => K l
    | _ => False
  | none => False

def loadEv (T : Tab) (hp : Nat → Option (Bool × List A)) (t : Nat) (a : A) (K : A → Prop) : Prop :=
  match T t with
  | some y => match a with
    | .ptr b o => match hp b with
      | some (_, l) => match y.isAgg with
        | true => TkE l o y.size fun xs => K (mkAgg xs)
        | false => NthE l o K
      | none => False
    | .elem cells => match y.isAgg with
      | true => TkE cells 0 y.size fun xs => K (.d (.agg xs))
      | false => NthE cells 0 fun x => K (.d x)
    | _ => False
  | none => False

def partEv (g : Bool) (o s : Nat) (x : A) (K : A → Prop) : Prop :=
  match x with
  | .d (.agg l) => match g with
    | true => TkE l o s fun xs => K (.d (.agg xs))
    | false => NthE l o fun x => K (.d x)
  | .agg l => match g with
    | true => TkE l o s fun xs => K (mkAgg xs)
    | false => NthE l o K
  | _ => False

def fieldAddrEv (T : Tab) (s : Nat) (a : A) (f : Nat) (K : A → Prop) : Prop :=
  tyStruct T s fun l => match l[f]? with
    | some (off, _, _) => match a with
      | .ptr b o => K (.ptr b (o + off))
      | .elem cells => K (.elem (cells.drop off))
      | _ => False
    | none => False
def fieldEv (T : Tab) (s : Nat) (a : A) (f : Nat) (K : A → Prop) : Prop :=
  tyStruct T s fun l => match l[f]? with
    | some (off, sz, g) => partEv g off sz a K
    | none => False

def indexAddrEv (T : Tab) (t : Nat) (x i : A) (K : A → Prop) : Prop :=
  match i with
  | .d (.int _ i) =>
    match x with
    | .d (.slice n cells) => tySlice T t fun _ ye => Cd ((0 ≤ i ∧ i < n) ∧ i.toNat * ye.size < cells.length) (K (.elem (cells.drop (i.toNat * ye.size))))
    | .own b o n sz => tySlice T t fun _ ye => Cd (sz = ye.size) (Cd (0 ≤ i ∧ i < n) (K (.ptr b (o + i.toNat * ye.size))))
    | .ptr b o => tyArray T t fun n _ ye => Cd (0 ≤ i ∧ i < n) (K (.ptr b (o + i.toNat * ye.size)))
    | .elem cells => tyArray T t fun n _ ye => Cd (0 ≤ i ∧ i < n) (K (.elem (cells.drop (i.toNat * ye.size))))
    | _ => False
  | _ => False
def indexEv (T : Tab) (t : Nat) (x i : A) (K : A → Prop) : Prop :=
  match i with
  | .d (.int _ i) =>
    match x with
    | .d (.str s) => Cd ((T t).any (·.k = .str) = true) (Cd (0 ≤ i ∧ i < s.size) (EqE (((nth 0 s.data.toList i.toNat).toNat : Nat) : Int) fun z => K (.d (.int .u8 z))))
    | x => tyArray T t fun n _ ye => Cd (0 ≤ i ∧ i < n) (partEv ye.isAgg (i.toNat * ye.size) ye.size x K)
  | _ => False

def convEv (T : Tab) (src dst : Nat) (a : A) (K : A → Prop) : Prop :=
  match a with
  | .d (.int _ n) => Cd ((T src).isSome = true) (match T dst with
    | some y => match y.k with
      | .int k => EqE (k.wrap n) fun z => K (.d (.int k z))
      | _ => False
    | none => False)
  | .d (.str s) => Cd ((T src).any (·.k = .str) = true) (Cd ((T dst).any (·.k = .str) = true) (K (.d (.str s))))
  | _ => False

/-- A row, its spine known. -/
def forceL {α : Type} : List α → (List α → Prop) → Prop
  | [], K => K []
  | x :: l, K => forceL l fun l => K (x :: l)
theorem forceL_eq {α : Type} : ∀ (l : List α) (K : List α → Prop), forceL l K = K l
  | [], K => rfl
  | x :: l, K => by rw [forceL, forceL_eq l]
theorem EqE.fL {α : Type} {l : List α} {K : List α → Prop} (h : forceL l K) : EqE l K := ⟨l, rfl, by rw [forceL_eq] at h; exact h⟩
theorem TkE.fL {α : Type} {l : List α} {o s : Nat} {K : List α → Prop} (h : forceL ((l.drop o).take s) fun xs => Cd (xs.length = s) (K xs)) : TkE l o s K := by
  rw [forceL_eq] at h
  exact ⟨_, rfl, h.c, h.k⟩
/-- A part's place and its cells. -/
def fillA (place : Nat → Option (Nat × Nat)) (cells : List A) : List (Nat × A) → (List A → Prop) → Prop
  | [], K => K cells
  | (i, v) :: rest, K =>
    match place i with
    | none => False
    | some (off, size) => Cd (v.full = true) (Cd (v.cells.length = size) (Cd (off + size ≤ cells.length) (forceL (setAt cells off v.cells) fun cells => fillA place cells rest K)))
def zeros (z : List ZK) : List A := z.map fun x => .d x.toD
def buildEv (T : Tab) (t : Nat) (parts : List (Nat × A)) (K : A → Prop) : Prop :=
  match T t with
  | some y => Cd ((!y.zero.isEmpty && y.isAgg) = true) (match y.k with
    | .struct l => fillA (fun i => (l[i]?).map fun x => (x.1, x.2.1)) (zeros y.zero) parts fun c => K (mkAgg c)
    | .array _ e => match T e with
      | some ye => fillA (fun i => some (i * ye.size, ye.size)) (zeros y.zero) parts fun c => K (mkAgg c)
      | none => False
    | _ => False)
  | none => False

def boundEv (x : Option A) (d : Int) (K : Int → Prop) : Prop :=
  match x with
  | none => K d
  | some (.d (.int _ i)) => K i
  | _ => False
def sliceEv (T : Tab) (hp : Nat → Option (Bool × List A)) (t : Nat) (x : A) (lo hi mx : Option A) (K : A → Prop) : Prop :=
  match mx with
  | some _ => False
  | none =>
    match x with
    | .d (.str s) => Cd ((T t).any (·.k = .str) = true) (boundEv lo 0 fun l => boundEv hi s.size fun h => Cd (0 ≤ l ∧ l ≤ h ∧ h ≤ s.size) (K (.d (.str (s.extract l.toNat h.toNat)))))
    | .d (.slice n cells) => tySlice T t fun _ ye => boundEv lo 0 fun l => boundEv hi n fun h => Cd (0 ≤ l ∧ l ≤ h ∧ h ≤ n) (EqE (.slice (h - l).toNat ((cells.drop (l.toNat * ye.size)).take ((h - l).toNat * ye.size))) fun y => K (.d y))
    | .own b o n sz => tySlice T t fun _ ye => Cd (sz = ye.size) (boundEv lo 0 fun l => boundEv hi n fun h => Cd (0 ≤ l ∧ l ≤ h ∧ h ≤ n) (K (.own b (o + l.toNat * ye.size) (h - l).toNat sz)))
    | .ptr b o => match hp b with
      | some (_, cells) => tyArray T t fun n _ ye => Cd (o + n * ye.size ≤ cells.length) (boundEv lo 0 fun l => boundEv hi n fun h => Cd (0 ≤ l ∧ l ≤ h ∧ h ≤ n) (K (.own b (o + l.toNat * ye.size) (h - l).toNat ye.size)))
      | none => False
    | _ => False

def lenEv (T : Tab) (t : Nat) (x : A) (K : A → Prop) : Prop :=
  match x with
  | .d (.slice n _) => tySlice T t fun _ _ => K (.d (.int .i64 n))
  | .d .nil => tySlice T t fun _ _ => K (.d (.int .i64 0))
  | .own _ _ n _ => tySlice T t fun _ _ => K (.d (.int .i64 n))
  | .d (.str s) => Cd ((T t).any (·.k = .str) = true) (K (.d (.int .i64 s.size)))
  | _ => tyArray T t fun n _ _ => K (.d (.int .i64 n))
def maxEv (isMax : Bool) : List A → (A → Prop) → Prop
  | [.d (.int k x), .d (.int _ y)], K => EqE (if isMax then (if y > x then y else x) else (if y < x then y else x)) fun z => K (.d (.int k z))
  | _, _ => False

def extractEv (x : A) (i : Nat) (K : A → Prop) : Prop :=
  match x with
  | .d (.tup l) => NthE l i fun x => K (.d x)
  | _ => False
def pickEv (c a b : A) (K : A → Prop) : Prop :=
  match c with
  | .d (.bool t) => Br t (K a) (K b)
  | _ => False

def valEv (T : Tab) (ev : Operand → A) (hp : Nat → Option (Bool × List A)) (op : Op) (K : A → Prop) : Prop :=
  match op with
  | .move x | .assign x => K (ev x)
  | .pick c a b => pickEv (ev c) (ev a) (ev b) K
  | .build t parts => buildEv T t (parts.toList.map fun p => (p.1, ev p.2)) K
  | .load t a => loadEv T hp t (ev a) K
  | .nilCheck x => match ev x with
    | .ptr b o => K (.ptr b o)
    | .elem c => K (.elem c)
    | _ => False
  | .binOp op xT x y _ => binEv T op xT (ev x) (ev y) K
  | .unOp op _ x => unEv op (ev x) K
  | .convert s d x => convEv T s d (ev x) K
  | .slice t x lo hi mx => sliceEv T hp t (ev x) (lo.map ev) (hi.map ev) (mx.map ev) K
  | .fieldAddr s x f => fieldAddrEv T s (ev x) f K
  | .field s x f => fieldEv T s (ev x) f K
  | .indexAddr t x i => indexAddrEv T t (ev x) (ev i) K
  | .index t x i => indexEv T t (ev x) (ev i) K
  | .extract x i => extractEv (ev x) i K
  | .call c => match c.callee with
    | .builtin .len => match c.argTypes.toList, c.args.toList with
      | [t], [x] => lenEv T t (ev x) K
      | _, _ => False
    | .builtin .max => maxEv true (c.args.toList.map ev) K
    | .builtin .min => maxEv false (c.args.toList.map ev) K
    | _ => False
  | .makeFunc (.func f) first caps => match first.toList with
    | [] => K (.fn f (caps.toList.map ev))
    | _ => False
  | _ => False
end Go.Ev

namespace Go.Ev
open Go

/-- A block of the call's own reads so. -/
def Rd (β : Own) (S : Imm) (w : World) (k : Nat) (l : List A) : Prop :=
  ∃ (C : Array Value) (T : TypeId), w.heap[k]? = some (.cells C T (0, 0)) ∧ l.length ≤ C.size ∧ ∀ (j : Nat) (x : A), l[j]? = some x → ∃ u, C[j]? = some u ∧ AR β S w x u
def HeapRd (β : Own) (S : Imm) (w : World) (hp : Nat → Option (Bool × List A)) : Prop :=
  ∀ b k fr l, β b = some (some k) → hp b = some (fr, l) → Rd β S w k l

/-- The model's step gives a value that K speaks of, and leaves memory as it is. -/
def Gives (P : Program) (β : Own) (S : Imm) (w : World) (s : Sem Value) (K : A → Prop) : Prop :=
  ∃ r v, K r ∧ AR β S w r v ∧ s.run P w = .ok v w

section
variable {β : Own} {S : Imm} {w : World}
theorem AR.bool (b : Bool) : AR β S w (.d (.bool b)) (.bool b) := by simp only [AR, DR]
theorem AR.int (k : IntKind) (n : Int) : AR β S w (.d (.int k n)) (.int k n) := by simp only [AR, DR]
theorem AR.str (s : ByteArray) : AR β S w (.d (.str s)) (.string s) := by simp only [AR, DR]
end

section
variable {P : Program} {w : World} {t : TypeId}
theorem run_equal_bool (hu : P.underlying t = some .bool) (p q : Bool) : (Op.equal t (.bool p) (.bool q)).run P w = .ok (p == q) w := by
  have h : ∀ d, (Op.equalIn (d + 1) t (.bool p) (.bool q)).run P w = .ok (p == q) w := fun d => by
    simp [Op.equalIn, run_underlying hu]
  exact h 9999
theorem run_equal_nil {e : Nat} (hu : P.underlying t = some (.slice e)) (a : Option Addr) (n c : Nat) : (Op.equal t (.slice a n c) (.slice none 0 0)).run P w = .ok a.isNone w := by
  have h : ∀ d, (Op.equalIn (d + 1) t (.slice a n c) (.slice none 0 0)).run P w = .ok a.isNone w := fun d => by
    cases a <;> simp [Op.equalIn, run_underlying hu]
  exact h 9999
theorem binOp_eql_bool (p q : Bool) : binOp .eql t (.bool p) (.bool q) = (do pure (.bool (← Op.equal t (.bool p) (.bool q)))) := rfl
theorem binOp_neq_bool (p q : Bool) : binOp .neq t (.bool p) (.bool q) = (do pure (.bool (!(← Op.equal t (.bool p) (.bool q))))) := rfl
theorem binOp_eql_slice (a : Option Addr) (n c : Nat) : binOp .eql t (.slice a n c) (.slice none 0 0) = (do pure (.bool (← Op.equal t (.slice a n c) (.slice none 0 0)))) := rfl
theorem binOp_neq_slice (a : Option Addr) (n c : Nat) : binOp .neq t (.slice a n c) (.slice none 0 0) = (do pure (.bool (!(← Op.equal t (.slice a n c) (.slice none 0 0))))) := rfl
end

section
variable {P : Program} {T : Tab} {β : Own} {S : Imm} {w : World} {K : A → Prop}

theorem binEv_sound (hT : TabOk P T) {op : BinOp} {xT : Nat} {a b : A} {x y : Operand} {u v : Value} (h : binEv T op xT a b K) (hx : AR β S w a u) (hy : AR β S w b v) :
    Gives P β S w (do eqGuard op xT x y u v; binOp op xT u v) K := by
  unfold binEv at h
  split at h
  · rename_i k p k' q
    simp only [AR, DR] at hx hy
    subst hx hy
    have hg : ∀ op, (eqGuard op xT x y (.int k p) (.int k' q)).run P w = .ok () w := by
      intro op; unfold eqGuard; cases op <;> simp
    split at h
    · obtain ⟨h1, _, rfl, h⟩ := h
      exact ⟨_, _, h, AR.int _ _, by simp [hg, binOp, Op.shift, show ¬ q < 0 by omega]⟩
    · obtain ⟨h1, _, rfl, h⟩ := h
      exact ⟨_, _, h, AR.int _ _, by simp [hg, binOp, Op.shift, show ¬ q < 0 by omega]⟩
    · obtain ⟨rfl, h⟩ := h
      unfold intBin at h
      split at h
      all_goals first
        | (obtain ⟨_, rfl, h⟩ := h; exact ⟨_, _, h, AR.int _ _, by simp [hg, binOp, Op.intArith, Op.intBits]⟩)
        | exact ⟨_, _, h, AR.bool _, by simp [hg, binOp, Op.intCmp] <;> rfl⟩
        | (obtain ⟨h1, _, rfl, h⟩ := h; exact ⟨_, _, h, AR.int _ _, by simp [hg, binOp, Op.intDiv, h1]⟩)
        | exact h.elim
  · rename_i p q
    simp only [AR, DR] at hx hy
    subst hx hy
    obtain ⟨ht, h⟩ := h
    simp only [Option.any_eq_true, decide_eq_true_eq] at ht
    obtain ⟨yt, hyt, hk⟩ := ht
    have hu := under_bool hT hyt hk
    have hg : ∀ op, (eqGuard op xT x y (.bool p) (.bool q)).run P w = .ok () w := by
      intro op; unfold eqGuard; cases op <;> simp
    split at h
    · exact ⟨_, _, h, AR.bool _, by simp [hg, binOp_eql_bool, run_equal_bool hu]⟩
    · exact ⟨_, _, h, AR.bool _, by simp [hg, binOp_neq_bool, run_equal_bool hu]⟩
    · exact h.elim
  · rename_i p q
    simp only [AR, DR] at hx hy
    subst hx hy
    have hg : ∀ op, (eqGuard op xT x y (.string p) (.string q)).run P w = .ok () w := by
      intro op; unfold eqGuard; cases op <;> simp
    split at h
    · obtain ⟨hsz, h⟩ := h
      refine ⟨_, _, h, AR.str _, ?_⟩
      have : ¬ ((p.size + q.size : Nat) : Int) > IntKind.i64.max := by
        have : IntKind.i64.max = 9223372036854775807 := by decide
        rw [this]; omega
      simp only [Sem.run_bind, hg, Result.andThen_ok, binOp, Op.stringOp, if_neg this]
      rfl
    all_goals first
      | exact ⟨_, _, h, AR.bool _, by simp [hg, binOp, Op.stringOp]⟩
      | exact h.elim
  · rename_i n cells
    obtain ⟨ht, h⟩ := h
    simp only [AR, DR] at hx hy
    subst hy
    obtain ⟨a', c, rfl, hc, hl⟩ := hx
    simp only [Option.any_eq_true] at ht
    obtain ⟨yt, hyt, hk⟩ := ht
    have hu : ∃ e, P.underlying xT = some (.slice e) := by
      unfold Ty.isSl at hk
      split at hk
      · rename_i e he; exact ⟨e, under_slice hT hyt he⟩
      · simp at hk
    obtain ⟨e, hu⟩ := hu
    have hg : ∀ op, (eqGuard op xT x y (.slice a' n c) (.slice none 0 0)).run P w = .ok () w := by
      intro op; unfold eqGuard; cases op <;> simp
    have hn : cells ≠ [] → a' ≠ none := by
      intro hn e0
      subst e0
      rcases hl with rfl | ⟨_, _, h', _⟩
      · exact hn rfl
      · cases h'
    split at h
    · cases a' with
      | none => exact ⟨_, _, h.1 (Classical.byContradiction fun c => hn c rfl), AR.bool _, by simp [hg, binOp_eql_slice, run_equal_nil hu]⟩
      | some a' => exact ⟨_, _, h.2, AR.bool _, by simp [hg, binOp_eql_slice, run_equal_nil hu]⟩
    · cases a' with
      | none => exact ⟨_, _, h.1 (Classical.byContradiction fun c => hn c rfl), AR.bool _, by simp [hg, binOp_neq_slice, run_equal_nil hu]⟩
      | some a' => exact ⟨_, _, h.2, AR.bool _, by simp [hg, binOp_neq_slice, run_equal_nil hu]⟩
    · exact h.elim
  · exact h.elim

theorem unEv_sound {op : UnOp} {a : A} {u : Value} (h : unEv op a K) (hx : AR β S w a u) : Gives P β S w (Op.unary op u) K := by
  unfold unEv at h
  split at h
  all_goals first
    | (simp only [AR, DR] at hx; subst hx; obtain ⟨_, rfl, h⟩ := h; exact ⟨_, _, h, AR.int _ _, by simp [Op.unary, Op.intArith, Op.intBits]⟩)
    | (simp only [AR, DR] at hx; subst hx; exact ⟨_, _, h, AR.bool _, by simp [Op.unary]⟩)
    | exact h.elim

theorem tySlice_elim (hT : TabOk P T) {t : Nat} {K : Nat → Ty → Prop} (h : tySlice T t K) : ∃ e ye, P.underlying t = some (.slice e) ∧ T e = some ye ∧ K e ye := by
  unfold tySlice at h
  split at h
  · rename_i y hy
    split at h
    · rename_i e he
      split at h
      · rename_i ye hye
        exact ⟨e, ye, under_slice hT hy he, hye, h⟩
      · exact h.elim
    · exact h.elim
  · exact h.elim
theorem tyArray_elim (hT : TabOk P T) {t : Nat} {K : Nat → Nat → Ty → Prop} (h : tyArray T t K) : ∃ n e ye, P.underlying t = some (.array n e) ∧ T e = some ye ∧ K n e ye := by
  unfold tyArray at h
  split at h
  · rename_i y hy
    split at h
    · rename_i n e he
      split at h
      · rename_i ye hye
        exact ⟨n, e, ye, under_array hT hy he, hye, h⟩
      · exact h.elim
    · exact h.elim
  · exact h.elim
theorem tyStruct_elim (hT : TabOk P T) {t : Nat} {K : List (Nat × Nat × Bool) → Prop} (h : tyStruct T t K) : ∃ l fs, P.underlying t = some (.struct fs) ∧ K l ∧
    ∀ {f o s : Nat} {g : Bool}, l[f]? = some (o, s, g) → ∃ F, fs[f]? = some F ∧ F.offset = o ∧ s ≠ 0 ∧ ∃ i d, P.info? F.type = some i ∧ P.underlying F.type = some d ∧ i.size = s ∧ aggDesc d = g := by
  unfold tyStruct at h
  split at h
  · rename_i y hy
    split at h
    · rename_i l hl
      obtain ⟨fs, h1, h2⟩ := under_struct hT hy hl
      exact ⟨l, fs, h1, h, h2⟩
    · exact h.elim
  · exact h.elim

/-- Cells, one after another, loaded. -/
theorem run_loadCellsFrom {a : Addr} : ∀ (n i : Nat) (acc : Array Value) (f : Nat → Value), (∀ j, j < n → w.cell? (a.add (i + j)) = some (f j)) →
    (loadCellsFrom a i n acc).run P w = .ok (acc ++ ((List.range n).map f).toArray) w
  | 0, i, acc, f, _ => by simp [loadCellsFrom]
  | n + 1, i, acc, f, h => by
    have h0 := h 0 (by omega)
    have ih := run_loadCellsFrom n (i + 1) (acc.push (f 0)) (fun j => f (j + 1)) (fun j hj => by
      have := h (j + 1) (by omega)
      rwa [show i + (j + 1) = i + 1 + j by omega] at this)
    simp only [Nat.add_zero] at h0
    simp only [loadCellsFrom, Sem.run_bind, run_load, h0, Result.andThen_ok]
    rw [ih]
    congr 1
    rw [List.range_succ_eq_map]
    simp [Function.comp_def]

theorem add_none (k o n : Nat) : (⟨k, o, none⟩ : Addr).add n = ⟨k, o + n, none⟩ := by
  unfold Addr.add
  split
  · subst_vars; simp
  · simp

theorem cell_of_block {k : Nat} {C : Array Value} {T : TypeId} {fr : Nat × Nat} (h : w.heap[k]? = some (.cells C T fr)) (o : Nat) : w.cell? ⟨k, o, none⟩ = C[o]? := by
  simp [World.cell?, h]

theorem take_drop_get {α : Type} {l : List α} {o s j : Nat} {x : α} (h : ((l.drop o).take s)[j]? = some x) : l[o + j]? = some x ∧ j < s := by
  rw [List.getElem?_take] at h
  split at h
  · rename_i hj
    exact ⟨by simpa using h, hj⟩
  · simp at h

theorem loadEv_sound (hT : TabOk P T) {hp : Nat → Option (Bool × List A)} (hh : HeapRd β S w hp) {t : Nat} {a : A} {u : Value} (h : loadEv T hp t a K) (hx : AR β S w a u) :
    Gives P β S w (Instr.loadAt t u) K := by
  unfold loadEv at h
  split at h
  · rename_i y hy
    have hagg := run_isAgg' hT hy w
    have hsz := run_sizeOf' hT hy w
    split at h
    · rename_i b o
      simp only [AR] at hx
      obtain ⟨k, hk, rfl⟩ := hx
      split at h
      · rename_i fr l hl
        obtain ⟨C, Tc, hC, hlen, hcells⟩ := hh b k _ _ hk hl
        split at h
        · rename_i hg
          obtain ⟨xs, rfl, hxl, hK⟩ := h
          have hle : o + y.size ≤ l.length ∨ y.size = 0 := by
            simp at hxl; omega
          have hrun : (loadCells ⟨k, o, none⟩ y.size).run P w = .ok (((List.range y.size).map fun j => C.getD (o + j) undef).toArray) w := by
            have := run_loadCellsFrom (P := P) (w := w) (a := ⟨k, o, none⟩) y.size 0 #[] (fun j => C.getD (o + j) undef) (fun j hj => by
              rw [add_none, cell_of_block hC]
              have : o + (0 + j) < C.size := by omega
              simp [show o + j < C.size by omega])
            simpa [loadCells] using this
          refine ⟨_, _, hK, AR_mkAgg (vs := ((List.range y.size).map fun j => C.getD (o + j) undef).toArray) ?_, ?_⟩
          · refine ARs_mk (by simp only [hxl]; simp) fun j x u' hj hu => ?_
            obtain ⟨hj', hjs⟩ := take_drop_get hj
            obtain ⟨v', hv', hR⟩ := hcells _ _ hj'
            simp only [List.getElem?_map, List.getElem?_range hjs, Option.map_some, Option.some.injEq] at hu
            rw [← hu]
            simpa [Array.getD_eq_getD_getElem?, hv'] using hR
          · simp only [Instr.loadAt, Instr.sureAddr, loadVar, pure_bind, Sem.run_bind, hagg, hg, Result.andThen_ok, if_true, hsz, hrun, Sem.run_pure]
        · rename_i hg
          obtain ⟨x, hx, hK⟩ := h
          obtain ⟨v', hv', hR⟩ := hcells _ _ hx
          refine ⟨_, _, hK, hR, ?_⟩
          simp [Instr.loadAt, Instr.sureAddr, loadVar, hagg, hg, cell_of_block hC, hv']
      · exact h.elim
    · rename_i cells
      simp only [AR] at hx
      obtain ⟨k, o, rfl, hl⟩ := hx
      split at h
      · rename_i hg
        obtain ⟨xs, rfl, hxl, hK⟩ := h
        have hle : y.size ≤ cells.length ∨ y.size = 0 := by
          simp at hxl; omega
        have hf : ∀ j, j < y.size → ∃ u x, cells[j]? = some x ∧ w.cell? ⟨k, o + j, none⟩ = some u ∧ DR S w x u := by
          intro j hj
          obtain ⟨x, hx⟩ : ∃ x, cells[j]? = some x := ⟨cells[j]'(by omega), by simp⟩
          obtain ⟨_, u, h1, h2⟩ := DRL_get hl hx
          exact ⟨u, x, hx, h1, h2⟩
        have hrun : (loadCells ⟨k, o, none⟩ y.size).run P w = .ok (((List.range y.size).map fun j => (w.cell? ⟨k, o + j, none⟩).getD undef).toArray) w := by
          have := run_loadCellsFrom (P := P) (w := w) (a := ⟨k, o, none⟩) y.size 0 #[] (fun j => (w.cell? ⟨k, o + j, none⟩).getD undef) (fun j hj => by
            obtain ⟨u, x, h1, h2, h3⟩ := hf j hj
            rw [add_none]
            simp [h2])
          simpa [loadCells] using this
        refine ⟨_, .agg ((List.range y.size).map fun j => (w.cell? ⟨k, o + j, none⟩).getD undef).toArray, hK, ?_, ?_⟩
        · simp only [AR, DR]
          refine ⟨_, rfl, DRs_mk (by simp only [hxl]; simp) fun j x u' hj hu => ?_⟩
          rw [List.drop_zero, List.getElem?_take] at hj
          split at hj
          · rename_i hjs
            obtain ⟨u, x', h1, h2, h3⟩ := hf j hjs
            rw [h1] at hj; cases hj
            simp only [List.getElem?_map, List.getElem?_range hjs, Option.map_some, Option.some.injEq, h2, Option.getD_some] at hu
            rwa [← hu]
          · simp at hj
        · simp only [Instr.loadAt, Instr.sureAddr, loadVar, pure_bind, Sem.run_bind, hagg, hg, Result.andThen_ok, if_true, hsz, hrun, Sem.run_pure]
      · rename_i hg
        obtain ⟨x, hx, hK⟩ := h
        obtain ⟨_, u, h1, h2⟩ := DRL_get hl hx
        refine ⟨_, u, hK, by simp only [AR]; exact h2, ?_⟩
        simp only [Nat.add_zero] at h1
        simp [Instr.loadAt, Instr.sureAddr, loadVar, hagg, hg, h1]
    · exact h.elim
  · exact h.elim

theorem run_part {t : Nat} {i : TypeInfo} {d : TypeDesc} (hi : P.info? t = some i) (hd : P.underlying t = some d) (cs : Array Value) (off : Nat) :
    (part t cs off).run P w = if aggDesc d then .ok (.agg (cs.extract off (off + i.size))) w else match cs[off]? with | some v => .ok v w | none => .halt (.stuck "part: no such cell") w := by
  have h1 : (isAgg t).run P w = .ok (aggDesc d) w := by
    simp only [isAgg, Sem.run_bind, run_underlying hd, Result.andThen_ok]
    unfold aggDesc; split <;> simp
  have h2 : (sizeOf t).run P w = .ok i.size w := by simp [sizeOf, typeInfo, hi]
  simp only [part, Sem.run_bind, h1, Result.andThen_ok]
  cases aggDesc d
  · simp only [Bool.false_eq_true, if_false]; cases cs[off]? <;> simp
  · simp [h2]

theorem partEv_sound {t : Nat} {i : TypeInfo} {d : TypeDesc} (hi : P.info? t = some i) (hd : P.underlying t = some d) {g : Bool} {o s : Nat} (hg : aggDesc d = g) (hs : i.size = s)
    {x : A} {u : Value} (h : partEv g o s x K) (hx : AR β S w x u) : Gives P β S w (do part t (← asAgg u) o) K := by
  unfold partEv at h
  split at h
  · rename_i l
    simp only [AR, DR] at hx
    obtain ⟨vs, rfl, hl⟩ := hx
    have hlen := DRs_length hl
    split at h
    · obtain ⟨xs, rfl, hxl, hK⟩ := h
      refine ⟨_, .agg (vs.extract o (o + s)), hK, ?_, by simp [asAgg, run_part hi hd, hg, hs]⟩
      simp only [AR, DR]
      refine ⟨_, rfl, DRs_mk (by simp at hlen hxl ⊢; omega) fun j x u' hj hu => ?_⟩
      obtain ⟨hj', hjs⟩ := take_drop_get hj
      obtain ⟨v', hv', hR⟩ := DRs_get hl hj'
      rw [Array.toList_extract] at hu
      have : vs.toList[o + j]? = some u' := by
        have := hu
        simp only [List.extract_eq_take_drop, show o + s - o = s by omega] at this
        exact (take_drop_get this).1
      rw [hv'] at this; cases this
      exact hR
    · obtain ⟨x, hx, hK⟩ := h
      obtain ⟨v', hv', hR⟩ := DRs_get hl hx
      refine ⟨_, v', hK, by simp only [AR]; exact hR, ?_⟩
      have : vs[o]? = some v' := by simpa using hv'
      simp [asAgg, run_part hi hd, hg, this]
  · rename_i l
    simp only [AR] at hx
    obtain ⟨vs, rfl, hl⟩ := hx
    have hlen := ARs_length hl
    split at h
    · obtain ⟨xs, rfl, hxl, hK⟩ := h
      refine ⟨_, .agg (vs.extract o (o + s)), hK, AR_mkAgg ?_, by simp [asAgg, run_part hi hd, hg, hs]⟩
      refine ARs_mk (by simp at hlen hxl ⊢; omega) fun j x u' hj hu => ?_
      obtain ⟨hj', hjs⟩ := take_drop_get hj
      obtain ⟨v', hv', hR⟩ := ARs_get hl hj'
      rw [Array.toList_extract] at hu
      have : vs.toList[o + j]? = some u' := by
        have := hu
        simp only [List.extract_eq_take_drop, show o + s - o = s by omega] at this
        exact (take_drop_get this).1
      rw [hv'] at this; cases this
      exact hR
    · obtain ⟨x, hx, hK⟩ := h
      obtain ⟨v', hv', hR⟩ := ARs_get hl hx
      refine ⟨_, v', hK, hR, ?_⟩
      have : vs[o]? = some v' := by simpa using hv'
      simp [asAgg, run_part hi hd, hg, this]
  · exact h.elim

theorem fieldEv_sound (hT : TabOk P T) {s f : Nat} {x : A} {u : Value} (h : fieldEv T s x f K) (hx : AR β S w x u) : Gives P β S w (Instr.field s u f) K := by
  obtain ⟨l, fs, hu, hk, hf⟩ := tyStruct_elim hT h
  split at hk
  · rename_i off sz g hl
    obtain ⟨F, h1, h2, h3, i, d, hi, hd, hs, hg⟩ := hf hl
    obtain ⟨r, v, hK, hR, hrun⟩ := partEv_sound hi hd hg hs hk hx
    refine ⟨r, v, hK, hR, ?_⟩
    simp only [Instr.field, Sem.run_bind, run_underlying hu, Result.andThen_ok, h1, h2]
    simpa using hrun
  · exact hk.elim

theorem fieldAddrEv_sound (hT : TabOk P T) {s f : Nat} {x : A} {u : Value} (h : fieldAddrEv T s x f K) (hx : AR β S w x u) : Gives P β S w (Instr.fieldAt s u f) K := by
  obtain ⟨l, fs, hu, hk, hf⟩ := tyStruct_elim hT h
  split at hk
  · rename_i off sz g hl
    obtain ⟨F, h1, h2, h3, i, d, hi, hd, hs, hg⟩ := hf hl
    have hsz : (sizeOf F.type).run P w = .ok sz w := by simp [sizeOf, typeInfo, hi, hs]
    have hrun : ∀ a : Addr, (Instr.fieldAt s (.pointer (some a)) f).run P w = .ok (.pointer (some (a.add off))) w := by
      intro a
      simp [Instr.fieldAt, run_underlying hu, h1, Instr.sureAddr, fieldPlace, hsz, h3, h2]
    split at hk
    · rename_i b o
      simp only [AR] at hx
      obtain ⟨k, hk', rfl⟩ := hx
      exact ⟨_, _, hk, by simp only [AR]; exact ⟨k, hk', rfl⟩, by rw [hrun, add_none]⟩
    · rename_i cells
      simp only [AR] at hx
      obtain ⟨k, o, rfl, hl⟩ := hx
      exact ⟨_, _, hk, by simp only [AR]; exact ⟨k, o + off, rfl, DRL_drop hl off⟩, by rw [hrun, add_none]⟩
    · exact hk.elim
  · exact hk.elim

theorem run_indexAt_array' {t n e : Nat} {ye : Ty} (hT : TabOk P T) (hu : P.underlying t = some (.array n e)) (hye : T e = some ye) (a : Addr) (k : IntKind) {i : Int} (hi : 0 ≤ i ∧ i < n) :
    (Instr.indexAt t (.pointer (some a)) (.int k i)).run P w = .ok (.pointer (some (a.add (i.toNat * ye.size)))) w := by
  simp [Instr.indexAt, run_underlying hu, asIntOf, Instr.sureAddr, hi, run_sizeOf' hT hye]
theorem run_indexAt_slice' {t e : Nat} {ye : Ty} (hT : TabOk P T) (hu : P.underlying t = some (.slice e)) (hye : T e = some ye) (a : Addr) (n c : Nat) (k : IntKind) {i : Int} (hi : 0 ≤ i ∧ i < n) :
    (Instr.indexAt t (.slice (some a) n c) (.int k i)).run P w = .ok (.pointer (some (a.add (i.toNat * ye.size)))) w := by
  simp [Instr.indexAt, run_underlying hu, asIntOf, Instr.sureAddr, hi, run_sizeOf' hT hye]

theorem indexAddrEv_sound (hT : TabOk P T) {t : Nat} {x i : A} {u v : Value} (h : indexAddrEv T t x i K) (hx : AR β S w x u) (hi : AR β S w i v) : Gives P β S w (Instr.indexAt t u v) K := by
  unfold indexAddrEv at h
  split at h
  · rename_i ki i
    simp only [AR, DR] at hi
    subst hi
    split at h
    · rename_i n cells
      obtain ⟨e, ye, hu, hye, ⟨h1, h2⟩, h3⟩ := tySlice_elim hT h
      simp only [AR, DR] at hx
      obtain ⟨a, c, rfl, hc, hl⟩ := hx
      rcases hl with rfl | ⟨b, o, rfl, hl⟩
      · simp at h2
      · exact ⟨_, _, h3, by simp only [AR]; exact ⟨b, _, rfl, DRL_drop hl _⟩, by rw [run_indexAt_slice' hT hu hye _ _ _ _ h1, add_none]⟩
    · rename_i b o n sz
      obtain ⟨e, ye, hu, hye, hsz, h1, h3⟩ := tySlice_elim hT h
      simp only [AR] at hx
      rcases hx with ⟨k, hk, c, C, Tc, fr, rfl, hc, hC, hl⟩ | ⟨rfl, _⟩
      · exact ⟨_, _, h3, by simp only [AR]; exact ⟨k, hk, rfl⟩, by rw [run_indexAt_slice' hT hu hye _ _ _ _ h1, add_none]⟩
      · omega
    · rename_i b o
      obtain ⟨n, e, ye, hu, hye, h1, h3⟩ := tyArray_elim hT h
      simp only [AR] at hx
      obtain ⟨k, hk, rfl⟩ := hx
      exact ⟨_, _, h3, by simp only [AR]; exact ⟨k, hk, rfl⟩, by rw [run_indexAt_array' hT hu hye _ _ h1, add_none]⟩
    · rename_i cells
      obtain ⟨n, e, ye, hu, hye, h1, h3⟩ := tyArray_elim hT h
      simp only [AR] at hx
      obtain ⟨k, o, rfl, hl⟩ := hx
      exact ⟨_, _, h3, by simp only [AR]; exact ⟨k, _, rfl, DRL_drop hl _⟩, by rw [run_indexAt_array' hT hu hye _ _ h1, add_none]⟩
    · exact h.elim
  · exact h.elim

theorem indexEv_sound (hT : TabOk P T) {t : Nat} {x i : A} {u v : Value} (h : indexEv T t x i K) (hx : AR β S w x u) (hi : AR β S w i v) : Gives P β S w (Instr.index t u v) K := by
  unfold indexEv at h
  split at h
  · rename_i ki i
    simp only [AR, DR] at hi
    subst hi
    split at h
    · rename_i s
      obtain ⟨ht, h1, z, rfl, h2⟩ := h
      simp only [AR, DR] at hx
      subst hx
      simp only [Option.any_eq_true, decide_eq_true_eq] at ht
      obtain ⟨yt, hyt, hk⟩ := ht
      have hu := under_str hT hyt hk
      refine ⟨_, _, h2, AR.int _ _, ?_⟩
      have hlt : i.toNat < s.data.toList.length := by
        have : s.data.toList.length = s.size := by simp
        omega
      have hg := nth_get (d := (0 : UInt8)) hlt
      have hs : s[i.toNat]? = some (nth 0 s.data.toList i.toNat) := by
        have h3 : i.toNat < s.size := by simpa using hlt
        rw [getElem?_pos s i.toNat h3]
        have h4 : s.data.toList[i.toNat]? = some s[i.toNat] := by
          rw [List.getElem?_eq_getElem hlt]; rfl
        rw [h4] at hg
        exact hg
      simp [Instr.index, asIntOf, run_underlying hu, h1.1, hs]
    · rename_i x hxs
      obtain ⟨n, e, ye, hu, hye, h1, h3⟩ := tyArray_elim hT h
      obtain ⟨ie, de, hie, hde, hs, _, hag, _⟩ := Ty.info hT hye
      obtain ⟨r, v', hK, hR, hrun⟩ := partEv_sound hie hde hag hs h3 hx
      refine ⟨r, v', hK, hR, ?_⟩
      have hcs : ∃ cs, u = .agg cs := by
        unfold partEv at h3
        split at h3
        · simp only [AR, DR] at hx; obtain ⟨vs, rfl, _⟩ := hx; exact ⟨_, rfl⟩
        · simp only [AR] at hx; obtain ⟨vs, rfl, _⟩ := hx; exact ⟨_, rfl⟩
        · exact h3.elim
      obtain ⟨cs, rfl⟩ := hcs
      simp only [asAgg, pure_bind] at hrun
      simp [Instr.index, asIntOf, run_underlying hu, h1, run_sizeOf' hT hye, hrun]
  · exact h.elim

theorem convEv_sound (hT : TabOk P T) {s d : Nat} {x : A} {u : Value} (h : convEv T s d x K) (hx : AR β S w x u) : Gives P β S w (convert s d u) K := by
  unfold convEv at h
  split at h
  · rename_i k n
    obtain ⟨hs, h⟩ := h
    simp only [AR, DR] at hx
    subst hx
    obtain ⟨ys, hys⟩ := Option.isSome_iff_exists.mp hs
    obtain ⟨is, ds, _, hds, _⟩ := Ty.info hT hys
    split at h
    · rename_i y hy
      split at h
      · rename_i k' hk
        obtain ⟨_, rfl, h⟩ := h
        exact ⟨_, _, h, AR.int _ _, by simp [convert, run_underlying hds, run_underlying (under_int hT hy hk), Conv.intToInt]⟩
      · exact h.elim
    · exact h.elim
  · rename_i s'
    obtain ⟨h1, h2, h3⟩ := h
    simp only [AR, DR] at hx
    subst hx
    simp only [Option.any_eq_true, decide_eq_true_eq] at h1 h2
    obtain ⟨y1, hy1, hk1⟩ := h1
    obtain ⟨y2, hy2, hk2⟩ := h2
    exact ⟨_, _, h3, AR.str _, by simp [convert, run_underlying (under_str hT hy1 hk1), run_underlying (under_str hT hy2 hk2)]⟩
  · exact h.elim

theorem A.cells_AR {x : A} {u : Value} (h : AR β S w x u) (hx : x.full = true) : ARs β S w x.cells u.cells.toList := by
  cases x with
  | d y =>
    cases y with
    | any => simp [A.full] at hx
    | tup _ => simp [A.full] at hx
    | fnd _ _ => simp [A.full] at hx
    | ptrd c =>
      have h0 := h
      simp only [AR, DR] at h
      obtain ⟨k, o, rfl, _⟩ := h
      simp only [A.cells, ARs]
      exact ⟨_, [], rfl, h0, rfl⟩
    | agg l =>
      simp only [AR, DR] at h
      obtain ⟨vs, rfl, h⟩ := h
      exact ARs_of_DRs h
    | raw v =>
      have h0 := h
      simp only [AR, DR] at h
      subst h
      have : u.cells = #[u] := by cases u <;> first | rfl | simp [A.full, Value.oneCell'] at hx
      rw [this]
      simp only [A.cells, ARs]
      exact ⟨u, [], rfl, h0, rfl⟩
    | slice n l =>
      have h0 := h
      simp only [AR, DR] at h
      obtain ⟨a, c, rfl, _⟩ := h
      simp only [A.cells, ARs]
      exact ⟨_, [], rfl, h0, rfl⟩
    | _ =>
      have h0 := h
      simp only [AR, DR] at h
      subst h
      simp only [A.cells, ARs]
      exact ⟨_, [], rfl, h0, rfl⟩
  | fn f l => simp [A.full] at hx
  | ptr b o =>
    have h0 := h
    simp only [AR] at h
    obtain ⟨k, _, rfl⟩ := h
    simp only [A.cells, ARs]
    exact ⟨_, [], rfl, h0, rfl⟩
  | elem c =>
    have h0 := h
    simp only [AR] at h
    obtain ⟨k, o, rfl, _⟩ := h
    simp only [A.cells, ARs]
    exact ⟨_, [], rfl, h0, rfl⟩
  | own b o n sz =>
    have h0 := h
    simp only [AR] at h
    have : u.cells = #[u] := by
      rcases h with ⟨k, _, c, C, T, fr, rfl, _⟩ | ⟨_, _, a, rfl⟩ <;> rfl
    rw [this]
    simp only [A.cells, ARs]
    exact ⟨_, [], rfl, h0, rfl⟩
  | agg l =>
    simp only [AR] at h
    obtain ⟨vs, rfl, h⟩ := h
    exact h

theorem getElem?_setAt {α : Type} : ∀ (xs l : List α) (o j : Nat), o + xs.length ≤ l.length → (setAt l o xs)[j]? = if o ≤ j ∧ j < o + xs.length then xs[j - o]? else l[j]?
  | [], l, o, j, _ => by simp only [setAt, List.length_nil]; rw [if_neg (by omega)]
  | x :: xs, l, o, j, h => by
    simp only [List.length_cons] at h
    simp only [setAt]
    rw [getElem?_setAt xs (l.set o x) (o + 1) j (by simp; omega)]
    by_cases h1 : o + 1 ≤ j ∧ j < o + 1 + xs.length
    · rw [if_pos h1, if_pos (by simp; omega), show j - o = (j - (o + 1)) + 1 by omega]
      simp
    · rw [if_neg h1, List.getElem?_set]
      by_cases h2 : o = j
      · subst h2
        simp only [if_true]
        rw [if_pos (by omega), if_pos (by simp)]
        simp
      · rw [if_neg h2, if_neg (by simp; omega)]

theorem ARs_setAt {l xs : List A} {vs us : List Value} {o : Nat} (h : ARs β S w l vs) (hx : ARs β S w xs us) (ho : o + xs.length ≤ l.length) : ARs β S w (setAt l o xs) (setAt vs o us) := by
  have e1 := ARs_length h
  have e2 := ARs_length hx
  refine ARs_mk (by simp [length_setAt, e1]) fun j x u hj hu => ?_
  rw [getElem?_setAt _ _ _ _ ho] at hj
  rw [getElem?_setAt _ _ _ _ (by omega), e2] at hu
  split at hj
  · rename_i hc
    rw [if_pos hc] at hu
    obtain ⟨u', hu', hR⟩ := ARs_get hx hj
    rw [hu] at hu'; cases hu'; exact hR
  · rename_i hc
    rw [if_neg hc] at hu
    obtain ⟨u', hu', hR⟩ := ARs_get h hj
    rw [hu] at hu'; cases hu'; exact hR

theorem fold_setAt : ∀ (us : List Value) (n off : Nat) (cs : Array Value), ((us.zipIdx n).foldl (fun (cs : Array Value) (c, j) => cs.setIfInBounds (off + j) c) cs).toList = setAt cs.toList (off + n) us
  | [], n, off, cs => by simp [setAt]
  | u :: us, n, off, cs => by
    simp only [List.zipIdx_cons, List.foldl_cons, setAt]
    rw [fold_setAt us (n + 1) off]
    simp [Nat.add_assoc]

theorem zeros_ARs (z : List ZK) : ARs β S w (zeros z) (z.map ZK.val) :=
  ARs_mk (by simp [zeros]) fun j x u hj hu => by
    simp only [zeros, List.getElem?_map, Option.map_eq_some_iff] at hj hu
    obtain ⟨a, ha, rfl⟩ := hj
    obtain ⟨b, hb, rfl⟩ := hu
    rw [ha] at hb; cases hb
    simp only [AR]; exact ZK.toD_val a

/-- Parts, related one by one. -/
inductive PartsR (β : Own) (S : Imm) (w : World) : List (Nat × A) → List (Nat × Value) → Prop
  | nil : PartsR β S w [] []
  | cons {i : Nat} {x : A} {v : Value} {l : List (Nat × A)} {l' : List (Nat × Value)} (h : AR β S w x v) (t : PartsR β S w l l') : PartsR β S w ((i, x) :: l) ((i, v) :: l')

theorem fillA_sound {place : Nat → Option (Nat × Nat)} : ∀ {parts : List (Nat × A)} {vparts : List (Nat × Value)} {cells : List A} {vcells : Array Value} {K : List A → Prop},
    fillA place cells parts K → PartsR β S w parts vparts → ARs β S w cells vcells.toList → ∃ c vc, K c ∧ ARs β S w c vc.toList ∧ Instr.fill place vcells vparts = some vc
  | [], vparts, cells, vcells, K, h, hp, hc => by
    cases hp
    exact ⟨cells, vcells, h, hc, by simp [Instr.fill]⟩
  | (i, x) :: rest, vparts, cells, vcells, K, h, hp, hc => by
    cases hp with
    | cons hx ht =>
      rename_i v l'
      simp only [fillA] at h
      split at h
      · exact h.elim
      · rename_i off size hpl
        obtain ⟨hf, hl, ho, h⟩ := h
        rw [forceL_eq] at h
        have hcx := A.cells_AR hx hf
        have e1 := ARs_length hcx
        have e2 := ARs_length hc
        have e3 := fold_setAt v.cells.toList 0 off vcells
        have hzip : (v.cells.zipIdx.foldl (fun cs (c, j) => cs.setIfInBounds (off + j) c) vcells).toList = setAt vcells.toList off v.cells.toList := by
          have e4 : v.cells.zipIdx.foldl (fun cs (c, j) => cs.setIfInBounds (off + j) c) vcells = (v.cells.toList.zipIdx).foldl (fun cs (c, j) => cs.setIfInBounds (off + j) c) vcells := by
            rw [← Array.foldl_toList]; simp
          rw [e4]
          simpa using e3
        obtain ⟨c, vc, hK, hR, hfill⟩ := fillA_sound h ht (vcells := v.cells.zipIdx.foldl (fun cs (c, j) => cs.setIfInBounds (off + j) c) vcells) (by
          rw [hzip]
          exact ARs_setAt hc hcx (by rw [hl]; exact ho))
        refine ⟨c, vc, hK, hR, ?_⟩
        simp only [Instr.fill, hpl]
        rw [if_neg]
        · exact hfill
        · have e5 : v.cells.size = size := by simpa [hl] using e1
          have e6 : vcells.size = cells.length := by simpa using e2
          simp [e5, e6]; omega

theorem run_mapM_fields : ∀ (fs : List Field), (∀ F ∈ fs, ∃ i, P.info? F.type = some i) →
    (∃ ps : List (Nat × Nat), (fs.mapM fun f => (do pure (f.offset, ← sizeOf f.type) : Sem (Nat × Nat))).run P w = .ok ps w ∧ ps = fs.map fun f => (f.offset, P.cellsOf f.type))
  | [], _ => ⟨[], by simp, rfl⟩
  | F :: fs, h => by
    obtain ⟨ps, h1, h2⟩ := run_mapM_fields fs fun F hF => h F (by simp [hF])
    obtain ⟨i, hi⟩ := h F (by simp)
    refine ⟨(F.offset, P.cellsOf F.type) :: ps, ?_, by simp [h2]⟩
    simp [sizeOf, typeInfo, hi, h1, Program.cellsOf] at h1 ⊢
    simp [h1]
end
end Go.Ev
