/- Types as the evaluator needs them; the value of an operation that turns no memory. -/
import Derived.Test.YtmgbegcamhkblaaDoorEvA
set_option linter.unusedSimpArgs false
set_option linter.unusedVariables false
namespace Go.Ev
open Go

inductive ZK where
  | bool | int (k : IntKind) | str | nil | ptr | iface | func
  deriving DecidableEq
def ZK.toD : ZK → D
  | .bool => .bool false
  | .int k => .int k 0
  | .str => .str ⟨#[]⟩
  | .nil => .nil
  | .ptr => .raw (.pointer none)
  | .iface => .raw .nilIface
  | .func => .raw .nilFunc
def ZK.chk : ZK → Value → Bool
  | .bool, .bool false => true
  | .int k, .int k' 0 => k == k'
  | .str, .string s => s.data.toList.isEmpty
  | .nil, .slice none 0 0 => true
  | .ptr, .pointer none => true
  | .iface, .nilIface => true
  | .func, .nilFunc => true
  | _, _ => false
def ZK.chks : List ZK → List Value → Bool
  | [], [] => true
  | z :: zs, v :: vs => z.chk v && ZK.chks zs vs
  | _, _ => false
def ZK.val : ZK → Value
  | .bool => .bool false
  | .int k => .int k 0
  | .str => .string ⟨#[]⟩
  | .nil => .slice none 0 0
  | .ptr => .pointer none
  | .iface => .nilIface
  | .func => .nilFunc
theorem ZK.chk_val {z : ZK} {v : Value} (h : z.chk v = true) : v = z.val := by
  unfold ZK.chk at h
  split at h <;> simp_all [ZK.val]
  rename_i s
  obtain ⟨⟨l⟩⟩ := s
  simp at h
  simp [h]
theorem ZK.chks_val : ∀ {zs : List ZK} {vs : List Value}, ZK.chks zs vs = true → vs = zs.map ZK.val
  | [], [], _ => rfl
  | z :: zs, v :: vs, h => by
    simp only [ZK.chks, Bool.and_eq_true] at h
    simp [ZK.chk_val h.1, ZK.chks_val h.2]
  | [], _ :: _, h => by simp [ZK.chks] at h
  | _ :: _, [], h => by simp [ZK.chks] at h
theorem ZK.toD_val {S : Imm} {w : World} (z : ZK) : DR S w z.toD z.val := by cases z <;> simp [ZK.toD, ZK.val, DR]

inductive TK where
  | bool | int (k : IntKind) | str
  | slice (e : Nat) | array (n e : Nat)
  | struct (fs : List (Nat × Nat × Bool))   -- where, how many cells, struct or array
  | other
  deriving DecidableEq
structure Ty where
  size : Nat
  bytes : Nat
  isAgg : Bool
  k : TK
  zero : List ZK
abbrev Tab := Nat → Option Ty

def aggDesc : TypeDesc → Bool
  | .struct _ | .array _ _ => true
  | _ => false
def fieldsChk (P : Program) : List (Nat × Nat × Bool) → List Field → Bool
  | [], [] => true
  | (o, s, g) :: l, f :: fs => f.offset == o && s != 0 && (match P.info? f.type, P.underlying f.type with | some i, some d => i.size == s && aggDesc d == g | _, _ => false) && fieldsChk P l fs
  | _, _ => false
def TK.chk (P : Program) : TK → TypeDesc → Bool
  | .bool, .bool => true
  | .int k, .int k' => k == k'
  | .str, .string => true
  | .slice e, .slice e' => e == e'
  | .array n e, .array n' e' => n == n' && e == e'
  | .struct l, .struct fs => fieldsChk P l fs.toList
  | .other, .pointer _ | .other, .interface _ | .other, .func _ _ _ | .other, .tuple _ => true
  | _, _ => false
def Ty.chk (P : Program) (t : Nat) (y : Ty) : Bool :=
  match P.info? t, P.underlying t with
  | some i, some d => i.size == y.size && i.bytes == y.bytes && aggDesc d == y.isAgg && y.k.chk P d && (match i.zero with | some z => y.zero.isEmpty || ZK.chks y.zero z.cells.toList | none => y.zero.isEmpty)
  | _, _ => false
structure TabOk (P : Program) (T : Tab) : Prop where
  ty : ∀ t y, T t = some y → y.chk P t = true
  mix : P.follows .mixedOrders = true

section
variable {P : Program} {T : Tab} (hT : TabOk P T) {t : Nat} {y : Ty} (ht : T t = some y) (w : World)
include hT ht

theorem Ty.info : ∃ i d, P.info? t = some i ∧ P.underlying t = some d ∧ i.size = y.size ∧ i.bytes = y.bytes ∧ aggDesc d = y.isAgg ∧ y.k.chk P d = true ∧ (y.zero = [] ∨ ∃ z, i.zero = some z ∧ z.cells.toList = y.zero.map ZK.val) := by
  have h := hT.ty t y ht
  unfold Ty.chk at h
  split at h
  · rename_i i d hi hd
    simp only [Bool.and_eq_true, beq_iff_eq] at h
    obtain ⟨⟨⟨⟨h1, h2⟩, h3⟩, h4⟩, h5⟩ := h
    refine ⟨i, d, hi, hd, h1, h2, h3, h4, ?_⟩
    split at h5
    · rename_i z hz
      simp only [Bool.or_eq_true, List.isEmpty_iff] at h5
      rcases h5 with h5 | h5
      · exact .inl h5
      · exact .inr ⟨z, hz, ZK.chks_val h5⟩
    · exact .inl (by simpa using h5)
  · simp at h

theorem run_sizeOf' : (sizeOf t).run P w = .ok y.size w := by
  obtain ⟨i, d, hi, hd, h1, _⟩ := Ty.info hT ht
  simp [sizeOf, typeInfo, hi, h1]
theorem run_typeInfo' : ∃ i, (typeInfo t).run P w = .ok i w ∧ i.bytes = y.bytes ∧ i.size = y.size := by
  obtain ⟨i, d, hi, hd, h1, h2, _⟩ := Ty.info hT ht
  exact ⟨i, by simp [typeInfo, hi], h2, h1⟩
theorem run_isAgg' : (isAgg t).run P w = .ok y.isAgg w := by
  obtain ⟨i, d, hi, hd, h1, h2, h3, _⟩ := Ty.info hT ht
  simp only [isAgg, Sem.run_bind, run_underlying hd, Result.andThen_ok]
  rw [← h3]
  unfold aggDesc
  split <;> simp
theorem run_zero' (hz : y.zero ≠ []) : ∃ z, (zeroValue t).run P w = .ok z w ∧ z.cells.toList = y.zero.map ZK.val := by
  obtain ⟨i, d, hi, hd, h1, h2, h3, _, h4⟩ := Ty.info hT ht
  rcases h4 with h4 | ⟨z, h4, h5⟩
  · exact absurd h4 hz
  · exact ⟨z, by simp [zeroValue, typeInfo, hi, h4], h5⟩
theorem under_slice {e : Nat} (hk : y.k = .slice e) : P.underlying t = some (.slice e) := by
  obtain ⟨i, d, hi, hd, _, _, _, h, _⟩ := Ty.info hT ht
  rw [hk] at h
  unfold TK.chk at h
  split at h <;> simp_all
theorem under_array {n e : Nat} (hk : y.k = .array n e) : P.underlying t = some (.array n e) := by
  obtain ⟨i, d, hi, hd, _, _, _, h, _⟩ := Ty.info hT ht
  rw [hk] at h
  unfold TK.chk at h
  split at h <;> simp_all
theorem under_int {k : IntKind} (hk : y.k = .int k) : P.underlying t = some (.int k) := by
  obtain ⟨i, d, hi, hd, _, _, _, h, _⟩ := Ty.info hT ht
  rw [hk] at h
  unfold TK.chk at h
  split at h <;> simp_all
theorem under_bool (hk : y.k = .bool) : P.underlying t = some .bool := by
  obtain ⟨i, d, hi, hd, _, _, _, h, _⟩ := Ty.info hT ht
  rw [hk] at h
  unfold TK.chk at h
  split at h <;> simp_all
theorem under_str (hk : y.k = .str) : P.underlying t = some .string := by
  obtain ⟨i, d, hi, hd, _, _, _, h, _⟩ := Ty.info hT ht
  rw [hk] at h
  unfold TK.chk at h
  split at h <;> simp_all
omit hT ht in
theorem fieldsChk_get {P : Program} : ∀ {l : List (Nat × Nat × Bool)} {fs : List Field}, fieldsChk P l fs = true → ∀ {f o s : Nat} {g : Bool}, l[f]? = some (o, s, g) → ∃ F, fs[f]? = some F ∧ F.offset = o ∧ s ≠ 0 ∧ ∃ i d, P.info? F.type = some i ∧ P.underlying F.type = some d ∧ i.size = s ∧ aggDesc d = g
  | [], [], _, f, o, s, g, h => by simp at h
  | (o', s', g') :: l, F :: fs, hc, 0, o, s, g, h => by
    simp at h
    obtain ⟨rfl, rfl, rfl⟩ := h
    simp only [fieldsChk, Bool.and_eq_true, beq_iff_eq] at hc
    obtain ⟨⟨⟨h1, h2⟩, h3⟩, h4⟩ := hc
    split at h3
    · rename_i i d hi hd
      simp at h3
      exact ⟨F, rfl, h1, by simpa using h2, i, d, hi, hd, h3.1, h3.2⟩
    · simp at h3
  | (o', s', g') :: l, F :: fs, hc, f + 1, o, s, g, h => by
    simp only [fieldsChk, Bool.and_eq_true] at hc
    obtain ⟨F', h1, h2⟩ := fieldsChk_get hc.2 (f := f) (by simpa using h)
    exact ⟨F', by simpa using h1, h2⟩
  | [], _ :: _, h, _, _, _, _, _ => by simp [fieldsChk] at h
  | _ :: _, [], h, _, _, _, _, _ => by simp [fieldsChk] at h
theorem under_struct {l : List (Nat × Nat × Bool)} (hk : y.k = .struct l) : ∃ fs, P.underlying t = some (.struct fs) ∧ ∀ {f o s : Nat} {g : Bool}, l[f]? = some (o, s, g) → ∃ F, fs[f]? = some F ∧ F.offset = o ∧ s ≠ 0 ∧ ∃ i d, P.info? F.type = some i ∧ P.underlying F.type = some d ∧ i.size = s ∧ aggDesc d = g := by
  obtain ⟨i, d, hi, hd, _, _, _, h, _⟩ := Ty.info hT ht
  rw [hk] at h
  have key : ∃ fs, d = .struct fs ∧ fieldsChk P l fs.toList = true := by
    cases d <;> first | (simp [TK.chk] at h; done) | exact ⟨_, rfl, by simpa [TK.chk] using h⟩
  obtain ⟨fs, rfl, hc⟩ := key
  refine ⟨fs, hd, fun {f o s g} hf => ?_⟩
  obtain ⟨F, h1, h2⟩ := fieldsChk_get hc hf
  exact ⟨F, by simpa using h1, h2⟩
end

/-- The n-th of a list. -/
def nth {α : Type} (d : α) : List α → Nat → α
  | [], _ => d
  | x :: _, 0 => x
  | _ :: l, n + 1 => nth d l n
theorem nth_get {α : Type} {d : α} : ∀ {l : List α} {n : Nat}, n < l.length → l[n]? = some (nth d l n)
  | [], n, h => by simp at h
  | x :: l, 0, _ => rfl
  | x :: l, n + 1, h => by simpa [nth] using nth_get (l := l) (n := n) (by simpa using h)

/-- One after another, from a place on, put in. -/
def setAt {α : Type} : List α → Nat → List α → List α
  | l, _, [] => l
  | l, o, x :: xs => setAt (l.set o x) (o + 1) xs
theorem length_setAt {α : Type} : ∀ (xs l : List α) (o : Nat), (setAt l o xs).length = l.length
  | [], l, o => rfl
  | x :: xs, l, o => by simp [setAt, length_setAt xs]

def constD : Value → D
  | .bool b => .bool b
  | .int k n => .int k n
  | .string s => .str s
  | .slice none 0 0 => .nil
  | v => .raw v
def constA : Value → A
  | .agg cs => .d (.agg (cs.toList.map constD))
  | v => .d (constD v)
theorem DR_const {S : Imm} {w : World} (v : Value) : DR S w (constD v) v := by
  unfold constD
  split <;> simp [DR]
theorem AR_const {β : Own} {S : Imm} {w : World} (v : Value) : AR β S w (constA v) v := by
  unfold constA
  split
  · rename_i cs
    simp only [AR, DR]
    refine ⟨cs, rfl, DRs_mk (by simp) fun j x u hx hu => ?_⟩
    simp only [List.getElem?_map, Option.map_eq_some_iff] at hx
    obtain ⟨u', hu', rfl⟩ := hx
    rw [hu] at hu'; cases hu'
    exact DR_const u
  · simp only [AR]; exact DR_const v
end Go.Ev
