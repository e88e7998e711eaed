/- Contracts of the given functions, on data. Conditions stand in each theorem. -/
import Derived.WalkKit
import Derived.Orders
import Derived.KernelRfl
set_option linter.unusedSimpArgs false
set_option linter.unusedVariables false
namespace Go.Ev
open Go
inductive D where
 | any
 | bool (b : Bool)
 | int (k : IntKind) (n : Int)
 | str (s : ByteArray)
 | raw (v : Value)
 | nil
 | slice (n : Nat) (cells : List D)
 | agg (cells : List D)
 | tup (vs : List D)
 | ptrd (cells : List D)
 | fnd (f : Nat) (caps : List D)
abbrev Imm := Nat → Nat → Prop
mutual
def DR (S : Imm) (w : World) : D → Value → Prop
 | .any, _ => True
 | .bool b, v => v = .bool b
 | .int k n, v => v = .int k n
 | .str s, v => v = .string s
 | .raw u, v => v = u
 | .nil, v => v = .slice none 0 0
 | .slice n cells, v => ∃ a c, v = .slice a n c ∧ n ≤ c ∧ (cells = [] ∨ ∃ b o, a = some ⟨b, o, none⟩ ∧ DRL S w b o cells)
 | .agg cells, v => ∃ vs, v = .agg vs ∧ DRs S w cells vs.toList
 | .tup cells, v => ∃ vs, v = .tuple vs ∧ DRs S w cells vs.toList
 | .ptrd cells, v => ∃ k o, v = .pointer (some ⟨k, o, none⟩) ∧ DRL S w k o cells
 | .fnd f cells, v => ∃ vs, v = .func (.func f) #[] vs ∧ DRs S w cells vs.toList
def DRL (S : Imm) (w : World) (b : Nat) : Nat → List D → Prop
 | _, [] => True
 | o, x :: xs => S b o ∧ (∃ u, w.cell? ⟨b, o, none⟩ = some u ∧ DR S w x u) ∧ DRL S w b (o + 1) xs
def DRs (S : Imm) (w : World) : List D → List Value → Prop
 | [], vs => vs = []
 | x :: xs, vs => ∃ u us, vs = u :: us ∧ DR S w x u ∧ DRs S w xs us
end
def ta (S : Imm) (w w' : World) : Prop := ∀ b o, S b o → w'.cell? ⟨b, o, none⟩ = w.cell? ⟨b, o, none⟩
def Imm.le (S S' : Imm) : Prop := ∀ b o, S b o → S' b o
mutual
theorem DR.mono {S S' : Imm} {w w' : World} (hS : S.le S') (hw : ta S w w') : ∀ {x : D} {v : Value}, DR S w x v → DR S' w' x v
 | .any, _, _ => by simp [DR]
 | .bool b, v, h => by simpa [DR] using h
 | .int k n, v, h => by simpa [DR] using h
 | .str s, v, h => by simpa [DR] using h
 | .raw u, v, h => by simpa [DR] using h
 | .nil, v, h => by simpa [DR] using h
 | .slice n cells, v, h => by
  simp only [DR] at h ⊢
  obtain ⟨a, c, hv, hc, h⟩ := h
  refine ⟨a, c, hv, hc, ?_⟩
  rcases h with h | ⟨b, o, ha, hl⟩
  ·exact .inl h
  ·exact .inr ⟨b, o, ha, DRL.mono hS hw hl⟩
 | .agg cells, v, h => by
  simp only [DR] at h ⊢
  obtain ⟨vs, hv, h⟩ := h
  exact ⟨vs, hv, DRs.mono hS hw h⟩
 | .tup cells, v, h => by
  simp only [DR] at h ⊢
  obtain ⟨vs, hv, h⟩ := h
  exact ⟨vs, hv, DRs.mono hS hw h⟩
 | .ptrd cells, v, h => by
  simp only [DR] at h ⊢
  obtain ⟨k, o, hv, h⟩ := h
  exact ⟨k, o, hv, DRL.mono hS hw h⟩
 | .fnd f cells, v, h => by
  simp only [DR] at h ⊢
  obtain ⟨vs, hv, h⟩ := h
  exact ⟨vs, hv, DRs.mono hS hw h⟩
theorem DRL.mono {S S' : Imm} {w w' : World} (hS : S.le S') (hw : ta S w w') {b : Nat} : ∀ {l : List D} {o : Nat}, DRL S w b o l → DRL S' w' b o l
 | [], _, _ => by simp [DRL]
 | x :: xs, o, h => by
  simp only [DRL] at h ⊢
  obtain ⟨h1, ⟨u, hu, hx⟩, h3⟩ := h
  exact ⟨hS _ _ h1, ⟨u, (hw _ _ h1).trans hu, DR.mono hS hw hx⟩, DRL.mono hS hw h3⟩
theorem DRs.mono {S S' : Imm} {w w' : World} (hS : S.le S') (hw : ta S w w') : ∀ {l : List D} {vs : List Value}, DRs S w l vs → DRs S' w' l vs
 | [], _, h => by simpa [DRs] using h
 | x :: xs, vs, h => by
  simp only [DRs] at h ⊢
  obtain ⟨u, us, rfl, hx, h3⟩ := h
  exact ⟨u, us, rfl, DR.mono hS hw hx, DRs.mono hS hw h3⟩
end
theorem yj {S : Imm} {w : World} {b : Nat} : ∀ {l : List D} {o : Nat}, DRL S w b o l → ∀ {j : Nat} {x : D}, l[j]? = some x → S b (o + j) ∧ ∃ u, w.cell? ⟨b, o + j, none⟩ = some u ∧ DR S w x u
 | [], _, _, _, _, h => by simp at h
 | y :: ys, o, h, 0, x, hx => by
  simp only [DRL] at h
  simp at hx; subst hx
  exact ⟨h.1, h.2.1⟩
 | y :: ys, o, h, j + 1, x, hx => by
  simp only [DRL] at h
  have := yj h.2.2 (j := j) (x := x) (by simpa using hx)
  have e : o + 1 + j = o + (j + 1) := by omega
  rwa [e] at this
theorem acf {S : Imm} {w : World} {b : Nat} : ∀ {l : List D} {o : Nat}, (∀ (j : Nat) (x : D), l[j]? = some x → S b (o + j) ∧ ∃ u, w.cell? ⟨b, o + j, none⟩ = some u ∧ DR S w x u) → DRL S w b o l
 | [], _, _ => by simp [DRL]
 | y :: ys, o, h => by
  simp only [DRL]
  refine ⟨(h 0 y rfl).1, (h 0 y rfl).2, acf fun j x hx => ?_⟩
  have := h (j + 1) x (by simpa using hx)
  have e : o + 1 + j = o + (j + 1) := by omega
  rwa [e]
theorem s8 {S : Imm} {w : World} {b o : Nat} {l : List D} (h : DRL S w b o l) (n : Nat) : DRL S w b (o + n) (l.drop n) :=
 acf fun j x hx => by
  have := yj h (j := n + j) (x := x) (by simpa using hx)
  rwa [Nat.add_assoc]
theorem alr {S : Imm} {w : World} {b o : Nat} {l : List D} (h : DRL S w b o l) (n : Nat) : DRL S w b o (l.take n) :=
 acf fun j x hx => yj h (by
  rw [List.getElem?_take] at hx
  split at hx
  ·exact hx
  ·simp at hx)
theorem cy {S : Imm} {w : World} : ∀ {l : List D} {vs : List Value}, DRs S w l vs → vs.length = l.length
 | [], _, h => by simp only [DRs] at h; simp [h]
 | x :: xs, vs, h => by
  simp only [DRs] at h
  obtain ⟨u, us, rfl, _, h3⟩ := h
  simp [cy h3]
theorem ig {S : Imm} {w : World} : ∀ {l : List D} {vs : List Value}, DRs S w l vs → ∀ {j : Nat} {x : D}, l[j]? = some x → ∃ u, vs[j]? = some u ∧ DR S w x u
 | [], _, _, _, _, h => by simp at h
 | y :: ys, vs, h, 0, x, hx => by
  simp only [DRs] at h
  obtain ⟨u, us, rfl, h1, _⟩ := h
  simp at hx; subst hx
  exact ⟨u, rfl, h1⟩
 | y :: ys, vs, h, j + 1, x, hx => by
  simp only [DRs] at h
  obtain ⟨u, us, rfl, _, h3⟩ := h
  simpa using ig h3 (j := j) (x := x) (by simpa using hx)
theorem qj {S : Imm} {w : World} : ∀ {l : List D} {vs : List Value}, vs.length = l.length → (∀ (j : Nat) (x : D) (u : Value), l[j]? = some x → vs[j]? = some u → DR S w x u) → DRs S w l vs
 | [], vs, hl, _ => by simp only [DRs]; simpa using hl
 | y :: ys, [], hl, _ => by simp at hl
 | y :: ys, v :: vs, hl, h => by
  simp only [DRs]
  exact ⟨v, vs, rfl, h 0 y v rfl rfl, qj (by simpa using hl) fun j x u hx hu => h (j + 1) x u (by simpa using hx) (by simpa using hu)⟩
inductive A where
 | d (x : D)
 | ptr (b o : Nat)
 | elem (cells : List D)
 | own (b o n sz : Nat)
 | agg (cells : List A)
 | fn (f : Nat) (caps : List A)
abbrev Own := Nat → Option (Option Nat)
mutual
def AR (β : Own) (S : Imm) (w : World) : A → Value → Prop
 | .d x, v => DR S w x v
 | .ptr b o, v => ∃ k, β b = some (some k) ∧ v = .pointer (some ⟨k, o, none⟩)
 | .elem cells, v => ∃ k o, v = .pointer (some ⟨k, o, none⟩) ∧ DRL S w k o cells
 | .own b o n sz, v => (∃ k, β b = some (some k) ∧ ∃ c C T fr, v = .slice (some ⟨k, o, none⟩) n c ∧ n ≤ c ∧ w.heap[k]? = some (.cells C T fr) ∧ o + c * sz ≤ C.size) ∨ (n = 0 ∧ β b ≠ none ∧ ∃ a, v = .slice a 0 0)
 | .agg l, v => ∃ vs, v = .agg vs ∧ ARs β S w l vs.toList
 | .fn f l, v => ∃ vs, v = .func (.func f) #[] vs ∧ ARs β S w l vs.toList
def ARs (β : Own) (S : Imm) (w : World) : List A → List Value → Prop
 | [], vs => vs = []
 | x :: xs, vs => ∃ u us, vs = u :: us ∧ AR β S w x u ∧ ARs β S w xs us
end
def qo (w w' : World) : Prop := ∀ (k : Nat) C T fr, w.heap[k]? = some (.cells C T fr) → ∃ C', w'.heap[k]? = some (.cells C' T fr) ∧ C'.size = C.size
def Own.le (β β' : Own) : Prop := ∀ b k, β b = some k → β' b = some k
theorem Own.le.ne {β β' : Own} (h : β.le β') {b : Nat} (hb : β b ≠ none) : β' b ≠ none := by
 cases hk : β b with
 | none => exact absurd hk hb
 | some k => rw [h b k hk]; simp
mutual
theorem AR.mono {β β' : Own} {S S' : Imm} {w w' : World} (hβ : β.le β') (hS : S.le S') (hw : ta S w w') (hs : qo w w') : ∀ {x : A} {v : Value}, AR β S w x v → AR β' S' w' x v
 | .d x, v, h => by simp only [AR] at h ⊢; exact DR.mono hS hw h
 | .ptr b o, v, h => by
  simp only [AR] at h ⊢
  obtain ⟨k, hk, hv⟩ := h
  exact ⟨k, hβ _ _ hk, hv⟩
 | .elem cells, v, h => by
  simp only [AR] at h ⊢
  obtain ⟨k, o, hv, h⟩ := h
  exact ⟨k, o, hv, DRL.mono hS hw h⟩
 | .own b o n sz, v, h => by
  simp only [AR] at h ⊢
  rcases h with ⟨k, hk, c, C, T, fr, hv, hc, hC, hl⟩ | h
  ·obtain ⟨C', hC', hsz⟩ := hs k C T fr hC
   exact .inl ⟨k, hβ _ _ hk, c, C', T, fr, hv, hc, hC', by omega⟩
  ·exact .inr ⟨h.1, hβ.ne h.2.1, h.2.2⟩
 | .agg l, v, h => by
  simp only [AR] at h ⊢
  obtain ⟨vs, hv, h⟩ := h
  exact ⟨vs, hv, ARs.mono hβ hS hw hs h⟩
 | .fn f l, v, h => by
  simp only [AR] at h ⊢
  obtain ⟨vs, hv, h⟩ := h
  exact ⟨vs, hv, ARs.mono hβ hS hw hs h⟩
theorem ARs.mono {β β' : Own} {S S' : Imm} {w w' : World} (hβ : β.le β') (hS : S.le S') (hw : ta S w w') (hs : qo w w') : ∀ {l : List A} {vs : List Value}, ARs β S w l vs → ARs β' S' w' l vs
 | [], _, h => by simpa [ARs] using h
 | x :: xs, vs, h => by
  simp only [ARs] at h ⊢
  obtain ⟨u, us, rfl, hx, h3⟩ := h
  exact ⟨u, us, rfl, AR.mono hβ hS hw hs hx, ARs.mono hβ hS hw hs h3⟩
end
theorem dj {β : Own} {S : Imm} {w : World} : ∀ {l : List A} {vs : List Value}, ARs β S w l vs → vs.length = l.length
 | [], _, h => by simp only [ARs] at h; simp [h]
 | x :: xs, vs, h => by
  simp only [ARs] at h
  obtain ⟨u, us, rfl, _, h3⟩ := h
  simp [dj h3]
theorem l9 {β : Own} {S : Imm} {w : World} : ∀ {l : List A} {vs : List Value}, ARs β S w l vs → ∀ {j : Nat} {x : A}, l[j]? = some x → ∃ u, vs[j]? = some u ∧ AR β S w x u
 | [], _, _, _, _, h => by simp at h
 | y :: ys, vs, h, 0, x, hx => by
  simp only [ARs] at h
  obtain ⟨u, us, rfl, h1, _⟩ := h
  simp at hx; subst hx
  exact ⟨u, rfl, h1⟩
 | y :: ys, vs, h, j + 1, x, hx => by
  simp only [ARs] at h
  obtain ⟨u, us, rfl, _, h3⟩ := h
  simpa using l9 h3 (j := j) (x := x) (by simpa using hx)
theorem wz {β : Own} {S : Imm} {w : World} : ∀ {l : List A} {vs : List Value}, vs.length = l.length → (∀ (j : Nat) (x : A) (u : Value), l[j]? = some x → vs[j]? = some u → AR β S w x u) → ARs β S w l vs
 | [], vs, hl, _ => by simp only [ARs]; simpa using hl
 | y :: ys, [], hl, _ => by simp at hl
 | y :: ys, v :: vs, hl, h => by
  simp only [ARs]
  exact ⟨v, vs, rfl, h 0 y v rfl rfl, wz (by simpa using hl) fun j x u hx hu => h (j + 1) x u (by simpa using hx) (by simpa using hu)⟩
def acg : List A → Option (List D)
 | [] => some []
 | .d x :: l => (acg l).map (x :: ·)
 | _ :: _ => none
@[simp] theorem avi : ∀ (l : List D), acg (l.map A.d) = some l
 | [] => rfl
 | x :: l => by simp [acg, avi l]
theorem aq6 : ∀ {l : List A} {ds : List D}, acg l = some ds → l = ds.map A.d
 | [], ds, h => by simp [acg] at h; simp [h]
 | .d x :: l, ds, h => by
  simp only [acg, Option.map_eq_some_iff] at h
  obtain ⟨e, he, rfl⟩ := h
  simp [← aq6 he]
 | .ptr .. :: l, ds, h => by simp [acg] at h
 | .elem .. :: l, ds, h => by simp [acg] at h
 | .own .. :: l, ds, h => by simp [acg] at h
 | .agg .. :: l, ds, h => by simp [acg] at h
 | .fn .. :: l, ds, h => by simp [acg] at h
def adz (l : List A) : A := match acg l with
 | some ds => .d (.agg ds)
 | none => .agg l
@[simp] theorem a4m (l : List D) : adz (l.map A.d) = .d (.agg l) := by simp [adz]
theorem aop {β : Own} {S : Imm} {w : World} {ds : List D} {vs : List Value} (h : ARs β S w (ds.map A.d) vs) : DRs S w ds vs :=
 qj (by simpa using dj h) fun j x u hx hu => by
  obtain ⟨u', hu', h'⟩ := l9 h (j := j) (x := .d x) (by simp [hx])
  rw [hu] at hu'; cases hu'
  simpa [AR] using h'
theorem aon {β : Own} {S : Imm} {w : World} {ds : List D} {vs : List Value} (h : DRs S w ds vs) : ARs β S w (ds.map A.d) vs :=
 wz (by simpa using cy h) fun j x u hx hu => by
  simp only [List.getElem?_map, Option.map_eq_some_iff] at hx
  obtain ⟨y, hy, rfl⟩ := hx
  obtain ⟨u', hu', h'⟩ := ig h hy
  rw [hu] at hu'; cases hu'
  simpa [AR] using h'
theorem aar {β : Own} {S : Imm} {w : World} {l : List A} {vs : Array Value} (h : ARs β S w l vs.toList) : AR β S w (adz l) (.agg vs) := by
 unfold adz
 split
 ·rename_i ds hds
  rw [aq6 hds] at h
  simp only [AR, DR]
  exact ⟨vs, rfl, aop h⟩
 ·simp only [AR]
  exact ⟨vs, rfl, h⟩
def A.cells : A → List A
 | .d (.agg l) => l.map A.d
 | .agg l => l
 | x => [x]
def A.one : A → Bool
 | .d .any | .d (.agg _) | .d (.tup _) | .d (.fnd _ _) | .agg _ | .fn _ _ => false
 | .d (.raw v) => v.oneCell'
 | _ => true
def A.full : A → Bool
 | .d .any | .d (.tup _) | .d (.fnd _ _) | .fn _ _ => false
 | .d (.raw v) => v.oneCell'
 | _ => true
end Go.Ev

namespace Go.Ev
open Go
inductive ZK where
 | bool | int (k : IntKind) | str | nil | ptr | iface | func
 deriving DecidableEq
def ZK.toD : ZK → D
 | .bool => .bool false
 | .int k => .int k 0
 | .str => .str ⟨#[]⟩
 | .nil => .nil
 | .ptr => .raw (.pointer none)
 | .iface => .raw .nilIface
 | .func => .raw .nilFunc
def ZK.chk : ZK → Value → Bool
 | .bool, .bool false => true
 | .int k, .int k' 0 => k == k'
 | .str, .string s => s.data.toList.isEmpty
 | .nil, .slice none 0 0 => true
 | .ptr, .pointer none => true
 | .iface, .nilIface => true
 | .func, .nilFunc => true
 | _, _ => false
def ZK.acj : List ZK → List Value → Bool
 | [], [] => true
 | z :: zs, v :: vs => z.chk v && ZK.acj zs vs
 | _, _ => false
def ZK.val : ZK → Value
 | .bool => .bool false
 | .int k => .int k 0
 | .str => .string ⟨#[]⟩
 | .nil => .slice none 0 0
 | .ptr => .pointer none
 | .iface => .nilIface
 | .func => .nilFunc
theorem ZK.azw {z : ZK} {v : Value} (h : z.chk v = true) : v = z.val := by
 unfold ZK.chk at h
 split at h <;> simp_all [ZK.val]
 rename_i s
 obtain ⟨⟨l⟩⟩ := s
 simp at h
 simp [h]
theorem ZK.al0 : ∀ {zs : List ZK} {vs : List Value}, ZK.acj zs vs = true → vs = zs.map ZK.val
 | [], [], _ => rfl
 | z :: zs, v :: vs, h => by
  simp only [ZK.acj, Bool.and_eq_true] at h
  simp [ZK.azw h.1, ZK.al0 h.2]
 | [], _ :: _, h => by simp [ZK.acj] at h
 | _ :: _, [], h => by simp [ZK.acj] at h
theorem ZK.a1x {S : Imm} {w : World} (z : ZK) : DR S w z.toD z.val := by cases z <;> simp [ZK.toD, ZK.val, DR]
inductive TK where
 | bool | int (k : IntKind) | str
 | slice (e : Nat) | array (n e : Nat)
 | struct (fs : List (Nat × Nat × Bool))   -- where, how many cells, struct or array
 | other
 deriving DecidableEq
structure Ty where
 size : Nat
 bytes : Nat
 isAgg : Bool
 k : TK
 zero : List ZK
abbrev Tab := Nat → Option Ty
def kv : TypeDesc → Bool
 | .struct _ | .array _ _ => true
 | _ => false
def ed (P : Program) : List (Nat × Nat × Bool) → List Field → Bool
 | [], [] => true
 | (o, s, g) :: l, f :: fs => f.offset == o && s != 0 && (match P.info? f.type, P.underlying f.type with | some i, some d => i.size == s && kv d == g | _, _ => false) && ed P l fs
 | _, _ => false
def TK.chk (P : Program) : TK → TypeDesc → Bool
 | .bool, .bool => true
 | .int k, .int k' => k == k'
 | .str, .string => true
 | .slice e, .slice e' => e == e'
 | .array n e, .array n' e' => n == n' && e == e'
 | .struct l, .struct fs => ed P l fs.toList
 | .other, .pointer _ | .other, .interface _ | .other, .func _ _ _ | .other, .tuple _ => true
 | _, _ => false
def Ty.chk (P : Program) (t : Nat) (y : Ty) : Bool :=
 match P.info? t, P.underlying t with
 | some i, some d => i.size == y.size && i.bytes == y.bytes && kv d == y.isAgg && y.k.chk P d && (match i.zero with | some z => y.zero.isEmpty || ZK.acj y.zero z.cells.toList | none => y.zero.isEmpty)
 | _, _ => false
structure b6 (P : Program) (T : Tab) : Prop where
 ty : ∀ t y, T t = some y → y.chk P t = true
 mix : P.follows .mixedOrders = true
section
variable {P : Program} {T : Tab} (hT : b6 P T) {t : Nat} {y : Ty} (ht : T t = some y) (w : World)
include hT ht
theorem Ty.info : ∃ i d, P.info? t = some i ∧ P.underlying t = some d ∧ i.size = y.size ∧ i.bytes = y.bytes ∧ kv d = y.isAgg ∧ y.k.chk P d = true ∧ (y.zero = [] ∨ ∃ z, i.zero = some z ∧ z.cells.toList = y.zero.map ZK.val) := by
 have h := hT.ty t y ht
 unfold Ty.chk at h
 split at h
 ·rename_i i d hi hd
  simp only [Bool.and_eq_true, beq_iff_eq] at h
  obtain ⟨⟨⟨⟨h1, h2⟩, h3⟩, h4⟩, h5⟩ := h
  refine ⟨i, d, hi, hd, h1, h2, h3, h4, ?_⟩
  split at h5
  ·rename_i z hz
   simp only [Bool.or_eq_true, List.isEmpty_iff] at h5
   rcases h5 with h5 | h5
   ·exact .inl h5
   ·exact .inr ⟨z, hz, ZK.al0 h5⟩
  ·exact .inl (by simpa using h5)
 ·simp at h
theorem ca : (sizeOf t).run P w = .ok y.size w := by
 obtain ⟨i, d, hi, hd, h1, _⟩ := Ty.info hT ht
 simp [sizeOf, typeInfo, hi, h1]
theorem sy : ∃ i, (typeInfo t).run P w = .ok i w ∧ i.bytes = y.bytes ∧ i.size = y.size := by
 obtain ⟨i, d, hi, hd, h1, h2, _⟩ := Ty.info hT ht
 exact ⟨i, by simp [typeInfo, hi], h2, h1⟩
theorem aqn : (isAgg t).run P w = .ok y.isAgg w := by
 obtain ⟨i, d, hi, hd, h1, h2, h3, _⟩ := Ty.info hT ht
 simp only [isAgg, Sem.run_bind, run_underlying hd, Result.andThen_ok]
 rw [← h3]
 unfold kv
 split <;> simp
theorem um (hz : y.zero ≠ []) : ∃ z, (zeroValue t).run P w = .ok z w ∧ z.cells.toList = y.zero.map ZK.val := by
 obtain ⟨i, d, hi, hd, h1, h2, h3, _, h4⟩ := Ty.info hT ht
 rcases h4 with h4 | ⟨z, h4, h5⟩
 ·exact absurd h4 hz
 ·exact ⟨z, by simp [zeroValue, typeInfo, hi, h4], h5⟩
theorem yf {e : Nat} (hk : y.k = .slice e) : P.underlying t = some (.slice e) := by
 obtain ⟨i, d, hi, hd, _, _, _, h, _⟩ := Ty.info hT ht
 rw [hk] at h
 unfold TK.chk at h
 split at h <;> simp_all
theorem ad9 {n e : Nat} (hk : y.k = .array n e) : P.underlying t = some (.array n e) := by
 obtain ⟨i, d, hi, hd, _, _, _, h, _⟩ := Ty.info hT ht
 rw [hk] at h
 unfold TK.chk at h
 split at h <;> simp_all
theorem au6 {k : IntKind} (hk : y.k = .int k) : P.underlying t = some (.int k) := by
 obtain ⟨i, d, hi, hd, _, _, _, h, _⟩ := Ty.info hT ht
 rw [hk] at h
 unfold TK.chk at h
 split at h <;> simp_all
theorem aqy (hk : y.k = .bool) : P.underlying t = some .bool := by
 obtain ⟨i, d, hi, hd, _, _, _, h, _⟩ := Ty.info hT ht
 rw [hk] at h
 unfold TK.chk at h
 split at h <;> simp_all
theorem uu (hk : y.k = .str) : P.underlying t = some .string := by
 obtain ⟨i, d, hi, hd, _, _, _, h, _⟩ := Ty.info hT ht
 rw [hk] at h
 unfold TK.chk at h
 split at h <;> simp_all
omit hT ht in
theorem zp {P : Program} : ∀ {l : List (Nat × Nat × Bool)} {fs : List Field}, ed P l fs = true → ∀ {f o s : Nat} {g : Bool}, l[f]? = some (o, s, g) → ∃ F, fs[f]? = some F ∧ F.offset = o ∧ s ≠ 0 ∧ ∃ i d, P.info? F.type = some i ∧ P.underlying F.type = some d ∧ i.size = s ∧ kv d = g
 | [], [], _, f, o, s, g, h => by simp at h
 | (o', s', g') :: l, F :: fs, hc, 0, o, s, g, h => by
  simp at h
  obtain ⟨rfl, rfl, rfl⟩ := h
  simp only [ed, Bool.and_eq_true, beq_iff_eq] at hc
  obtain ⟨⟨⟨h1, h2⟩, h3⟩, h4⟩ := hc
  split at h3
  ·rename_i i d hi hd
   simp at h3
   exact ⟨F, rfl, h1, by simpa using h2, i, d, hi, hd, h3.1, h3.2⟩
  ·simp at h3
 | (o', s', g') :: l, F :: fs, hc, f + 1, o, s, g, h => by
  simp only [ed, Bool.and_eq_true] at hc
  obtain ⟨F', h1, h2⟩ := zp hc.2 (f := f) (by simpa using h)
  exact ⟨F', by simpa using h1, h2⟩
 | [], _ :: _, h, _, _, _, _, _ => by simp [ed] at h
 | _ :: _, [], h, _, _, _, _, _ => by simp [ed] at h
theorem alg {l : List (Nat × Nat × Bool)} (hk : y.k = .struct l) : ∃ fs, P.underlying t = some (.struct fs) ∧ ∀ {f o s : Nat} {g : Bool}, l[f]? = some (o, s, g) → ∃ F, fs[f]? = some F ∧ F.offset = o ∧ s ≠ 0 ∧ ∃ i d, P.info? F.type = some i ∧ P.underlying F.type = some d ∧ i.size = s ∧ kv d = g := by
 obtain ⟨i, d, hi, hd, _, _, _, h, _⟩ := Ty.info hT ht
 rw [hk] at h
 have key : ∃ fs, d = .struct fs ∧ ed P l fs.toList = true := by
  cases d <;> first | (simp [TK.chk] at h; done) | exact ⟨_, rfl, by simpa [TK.chk] using h⟩
 obtain ⟨fs, rfl, hc⟩ := key
 refine ⟨fs, hd, fun {f o s g} hf => ?_⟩
 obtain ⟨F, h1, h2⟩ := zp hc hf
 exact ⟨F, by simpa using h1, h2⟩
end
def nth {α : Type} (d : α) : List α → Nat → α
 | [], _ => d
 | x :: _, 0 => x
 | _ :: l, n + 1 => nth d l n
theorem akq {α : Type} {d : α} : ∀ {l : List α} {n : Nat}, n < l.length → l[n]? = some (nth d l n)
 | [], n, h => by simp at h
 | x :: l, 0, _ => rfl
 | x :: l, n + 1, h => by simpa [nth] using akq (l := l) (n := n) (by simpa using h)
def setAt {α : Type} : List α → Nat → List α → List α
 | l, _, [] => l
 | l, o, x :: xs => setAt (l.set o x) (o + 1) xs
theorem ml {α : Type} : ∀ (xs l : List α) (o : Nat), (setAt l o xs).length = l.length
 | [], l, o => rfl
 | x :: xs, l, o => by simp [setAt, ml xs]
def aj0 : Value → D
 | .bool b => .bool b
 | .int k n => .int k n
 | .string s => .str s
 | .slice none 0 0 => .nil
 | v => .raw v
def aoy : Value → A
 | .agg cs => .d (.agg (cs.toList.map aj0))
 | v => .d (aj0 v)
theorem als {S : Imm} {w : World} (v : Value) : DR S w (aj0 v) v := by
 unfold aj0
 split <;> simp [DR]
theorem avd {β : Own} {S : Imm} {w : World} (v : Value) : AR β S w (aoy v) v := by
 unfold aoy
 split
 ·rename_i cs
  simp only [AR, DR]
  refine ⟨cs, rfl, qj (by simp) fun j x u hx hu => ?_⟩
  simp only [List.getElem?_map, Option.map_eq_some_iff] at hx
  obtain ⟨u', hu', rfl⟩ := hx
  rw [hu] at hu'; cases hu'
  exact als u
 ·simp only [AR]; exact als v
end Go.Ev

namespace Go.Ev
open Go
structure Cd (c k : Prop) : Prop where
 c : c
 k : k
structure Br (t : Bool) (a b : Prop) : Prop where
 tt : t = true → a
 ff : t = false → b
theorem Br.dec {p : Prop} [Decidable p] {a b : Prop} (ha : p → a) (hb : ¬ p → b) : Br (decide p) a b := ⟨fun h => ha (of_decide_eq_true h), fun h => hb (of_decide_eq_false h)⟩
theorem Br.ac1 {p : Prop} [Decidable p] {a b : Prop} (ha : ¬ p → a) (hb : p → b) : Br (!decide p) a b := ⟨fun h => ha (of_decide_eq_false (by simpa using h)), fun h => hb (of_decide_eq_true (by simpa using h))⟩
theorem Br.not {t : Bool} {a b : Prop} (h : Br t b a) : Br (!t) a b := ⟨fun e => h.ff (by simpa using e), fun e => h.tt (by simpa using e)⟩
theorem Br.t {a b : Prop} (h : a) : Br true a b := ⟨fun _ => h, (fun e => nomatch e)⟩
theorem Br.f {a b : Prop} (h : b) : Br false a b := ⟨(fun e => nomatch e), fun _ => h⟩
inductive ah {α : Type} (l : List α) (i : Nat) (K : α → Prop) : Prop where
 | mk (x : α) (h : l[i]? = some x) (k : K x)
inductive TkE {α : Type} (l : List α) (o s : Nat) (K : List α → Prop) : Prop where
 | mk (xs : List α) (h : (l.drop o).take s = xs) (hl : xs.length = s) (k : K xs)
inductive EqE {α : Type} (x : α) (K : α → Prop) : Prop where
 | mk (y : α) (h : x = y) (k : K y)
inductive DsE (l : List A) (K : List D → Prop) : Prop where
 | mk (ds : List D) (h : l = ds.map A.d) (k : K ds)
def Ty.at4 (y : Ty) : Bool := match y.k with | .slice _ => true | _ => false
def apd (op : BinOp) (k : IntKind) (x y : Int) (K : A → Prop) : Prop :=
 match op with
 | .add => EqE (k.wrap (x + y)) fun z => K (.d (.int k z))
 | .sub => EqE (k.wrap (x - y)) fun z => K (.d (.int k z))
 | .mul => EqE (k.wrap (x * y)) fun z => K (.d (.int k z))
 | .quo => Cd (y ≠ 0) (EqE (k.wrap (x.tdiv y)) fun z => K (.d (.int k z)))
 | .rem => Cd (y ≠ 0) (EqE (x.tmod y) fun z => K (.d (.int k z)))
 | .and => EqE (k.wrap (BitVec.ofInt k.bits x &&& BitVec.ofInt k.bits y).toNat) fun z => K (.d (.int k z))
 | .or => EqE (k.wrap (BitVec.ofInt k.bits x ||| BitVec.ofInt k.bits y).toNat) fun z => K (.d (.int k z))
 | .xor => EqE (k.wrap (BitVec.ofInt k.bits x ^^^ BitVec.ofInt k.bits y).toNat) fun z => K (.d (.int k z))
 | .andNot => EqE (k.wrap (BitVec.ofInt k.bits x &&& ~~~ BitVec.ofInt k.bits y).toNat) fun z => K (.d (.int k z))
 | .eql => K (.d (.bool (decide (x = y))))
 | .neq => K (.d (.bool (!decide (x = y))))
 | .lss => K (.d (.bool (decide (x < y))))
 | .leq => K (.d (.bool (decide (x ≤ y))))
 | .gtr => K (.d (.bool (decide (x > y))))
 | .geq => K (.d (.bool (decide (x ≥ y))))
 | .shl | .shr => False
def alw (T : Tab) (op : BinOp) (xT : Nat) (a b : A) (K : A → Prop) : Prop :=
 match a, b with
 | .d (.int k x), .d (.int k' y) =>
  match op with
  | .shl => Cd (0 ≤ y) (EqE (k.wrap (x * 2 ^ min y.toNat k.bits)) fun z => K (.d (.int k z)))
  | .shr => Cd (0 ≤ y) (EqE (x.fdiv (2 ^ min y.toNat k.bits)) fun z => K (.d (.int k z)))
  | op => Cd (k = k') (apd op k x y K)
 | .d (.bool x), .d (.bool y) =>
  Cd ((T xT).any (·.k = .bool) = true) (match op with
   | .eql => K (.d (.bool (x == y)))
   | .neq => K (.d (.bool (!(x == y))))
   | _ => False)
 | .d (.str x), .d (.str y) =>
  match op with
  | .add => Cd (x.size + y.size ≤ 2 ^ 60) (K (.d (.str (x ++ y))))
  | .eql => K (.d (.bool (x.toList == y.toList)))
  | .neq => K (.d (.bool (!(x.toList == y.toList))))
  | .lss => K (.d (.bool (Op.bytesLess x.toList y.toList)))
  | .gtr => K (.d (.bool (!(Op.bytesLess x.toList y.toList || x.toList == y.toList))))
  | .leq => K (.d (.bool (Op.bytesLess x.toList y.toList || x.toList == y.toList)))
  | .geq => K (.d (.bool (!Op.bytesLess x.toList y.toList)))
  | _ => False
 | .d (.slice _ cells), .d .nil =>
  Cd ((T xT).any Ty.at4 = true) (match op with
   | .eql => (cells = [] → K (.d (.bool true))) ∧ K (.d (.bool false))
   | .neq => (cells = [] → K (.d (.bool false))) ∧ K (.d (.bool true))
   | _ => False)
 | _, _ => False
def azf (op : UnOp) (a : A) (K : A → Prop) : Prop :=
 match op, a with
 | .neg, .d (.int k n) => EqE (k.wrap (0 - n)) fun z => K (.d (.int k z))
 | .xor, .d (.int k n) => EqE (k.wrap (BitVec.ofInt k.bits (if k.signed then -1 else k.max) ^^^ BitVec.ofInt k.bits n).toNat) fun z => K (.d (.int k z))
 | .not, .d (.bool b) => K (.d (.bool !b))
 | _, _ => False
def bg (T : Tab) (t : Nat) (K : Nat → Ty → Prop) : Prop :=
 match T t with
 | some y => match y.k with
  | .slice e => match T e with
   | some ye => K e ye
   | none => False
  | _ => False
 | none => False
def ix (T : Tab) (t : Nat) (K : Nat → Nat → Ty → Prop) : Prop :=
 match T t with
 | some y => match y.k with
  | .array n e => match T e with
   | some ye => K n e ye
   | none => False
  | _ => False
 | none => False
def mz (T : Tab) (t : Nat) (K : List (Nat × Nat × Bool) → Prop) : Prop :=
 match T t with
 | some y => match y.k with
  | .struct l => K l
  | _ => False
 | none => False
def vm (T : Tab) (hp : Nat → Option (Bool × List A)) (t : Nat) (a : A) (K : A → Prop) : Prop :=
 match T t with
 | some y => match a with
  | .ptr b o => match hp b with
   | some (_, l) => match y.isAgg with
    | true => TkE l o y.size fun xs => K (adz xs)
    | false => ah l o K
   | none => False
  | .elem cells => match y.isAgg with
   | true => TkE cells 0 y.size fun xs => K (.d (.agg xs))
   | false => ah cells 0 fun x => K (.d x)
  | _ => False
 | none => False
def aae (g : Bool) (o s : Nat) (x : A) (K : A → Prop) : Prop :=
 match x with
 | .d (.agg l) => match g with
  | true => TkE l o s fun xs => K (.d (.agg xs))
  | false => ah l o fun x => K (.d x)
 | .agg l => match g with
  | true => TkE l o s fun xs => K (adz xs)
  | false => ah l o K
 | _ => False
def ry (T : Tab) (s : Nat) (a : A) (f : Nat) (K : A → Prop) : Prop :=
 mz T s fun l => match l[f]? with
  | some (off, _, _) => match a with
   | .ptr b o => K (.ptr b (o + off))
   | .elem cells => K (.elem (cells.drop off))
   | _ => False
  | none => False
def aeq (T : Tab) (s : Nat) (a : A) (f : Nat) (K : A → Prop) : Prop :=
 mz T s fun l => match l[f]? with
  | some (off, sz, g) => aae g off sz a K
  | none => False
def oi (T : Tab) (t : Nat) (x i : A) (K : A → Prop) : Prop :=
 match i with
 | .d (.int _ i) =>
  match x with
  | .d (.slice n cells) => bg T t fun _ ye => Cd ((0 ≤ i ∧ i < n) ∧ i.toNat * ye.size < cells.length) (K (.elem (cells.drop (i.toNat * ye.size))))
  | .own b o n sz => bg T t fun _ ye => Cd (sz = ye.size) (Cd (0 ≤ i ∧ i < n) (K (.ptr b (o + i.toNat * ye.size))))
  | .ptr b o => ix T t fun n _ ye => Cd (0 ≤ i ∧ i < n) (K (.ptr b (o + i.toNat * ye.size)))
  | .elem cells => ix T t fun n _ ye => Cd (0 ≤ i ∧ i < n) (K (.elem (cells.drop (i.toNat * ye.size))))
  | _ => False
 | _ => False
def abj (T : Tab) (t : Nat) (x i : A) (K : A → Prop) : Prop :=
 match i with
 | .d (.int _ i) =>
  match x with
  | .d (.str s) => Cd ((T t).any (·.k = .str) = true) (Cd (0 ≤ i ∧ i < s.size) (EqE (((nth 0 s.data.toList i.toNat).toNat : Nat) : Int) fun z => K (.d (.int .u8 z))))
  | x => ix T t fun n _ ye => Cd (0 ≤ i ∧ i < n) (aae ye.isAgg (i.toNat * ye.size) ye.size x K)
 | _ => False
def afq (T : Tab) (src dst : Nat) (a : A) (K : A → Prop) : Prop :=
 match a with
 | .d (.int _ n) => Cd ((T src).isSome = true) (match T dst with
  | some y => match y.k with
   | .int k => EqE (k.wrap n) fun z => K (.d (.int k z))
   | _ => False
  | none => False)
 | .d (.str s) => Cd ((T src).any (·.k = .str) = true) (Cd ((T dst).any (·.k = .str) = true) (K (.d (.str s))))
 | _ => False
def ae {α : Type} : List α → (List α → Prop) → Prop
 | [], K => K []
 | x :: l, K => ae l fun l => K (x :: l)
theorem je {α : Type} : ∀ (l : List α) (K : List α → Prop), ae l K = K l
 | [], K => rfl
 | x :: l, K => by rw [ae, je l]
theorem EqE.fL {α : Type} {l : List α} {K : List α → Prop} (h : ae l K) : EqE l K := ⟨l, rfl, by rw [je] at h; exact h⟩
theorem TkE.fL {α : Type} {l : List α} {o s : Nat} {K : List α → Prop} (h : ae ((l.drop o).take s) fun xs => Cd (xs.length = s) (K xs)) : TkE l o s K := by
 rw [je] at h
 exact ⟨_, rfl, h.c, h.k⟩
def abe (place : Nat → Option (Nat × Nat)) (cells : List A) : List (Nat × A) → (List A → Prop) → Prop
 | [], K => K cells
 | (i, v) :: rest, K =>
  match place i with
  | none => False
  | some (off, size) => Cd (v.full = true) (Cd (v.cells.length = size) (Cd (off + size ≤ cells.length) (ae (setAt cells off v.cells) fun cells => abe place cells rest K)))
def nc (z : List ZK) : List A := z.map fun x => .d x.toD
def aaz (T : Tab) (t : Nat) (parts : List (Nat × A)) (K : A → Prop) : Prop :=
 match T t with
 | some y => Cd ((!y.zero.isEmpty && y.isAgg) = true) (match y.k with
  | .struct l => abe (fun i => (l[i]?).map fun x => (x.1, x.2.1)) (nc y.zero) parts fun c => K (adz c)
  | .array _ e => match T e with
   | some ye => abe (fun i => some (i * ye.size, ye.size)) (nc y.zero) parts fun c => K (adz c)
   | none => False
  | _ => False)
 | none => False
def k9 (x : Option A) (d : Int) (K : Int → Prop) : Prop :=
 match x with
 | none => K d
 | some (.d (.int _ i)) => K i
 | _ => False
def sj (T : Tab) (hp : Nat → Option (Bool × List A)) (t : Nat) (x : A) (lo hi mx : Option A) (K : A → Prop) : Prop :=
 match mx with
 | some _ => False
 | none =>
  match x with
  | .d (.str s) => Cd ((T t).any (·.k = .str) = true) (k9 lo 0 fun l => k9 hi s.size fun h => Cd (0 ≤ l ∧ l ≤ h ∧ h ≤ s.size) (K (.d (.str (s.extract l.toNat h.toNat)))))
  | .d (.slice n cells) => bg T t fun _ ye => k9 lo 0 fun l => k9 hi n fun h => Cd (0 ≤ l ∧ l ≤ h ∧ h ≤ n) (EqE (.slice (h - l).toNat ((cells.drop (l.toNat * ye.size)).take ((h - l).toNat * ye.size))) fun y => K (.d y))
  | .own b o n sz => bg T t fun _ ye => Cd (sz = ye.size) (k9 lo 0 fun l => k9 hi n fun h => Cd (0 ≤ l ∧ l ≤ h ∧ h ≤ n) (K (.own b (o + l.toNat * ye.size) (h - l).toNat sz)))
  | .ptr b o => match hp b with
   | some (_, cells) => ix T t fun n _ ye => Cd (o + n * ye.size ≤ cells.length) (k9 lo 0 fun l => k9 hi n fun h => Cd (0 ≤ l ∧ l ≤ h ∧ h ≤ n) (K (.own b (o + l.toNat * ye.size) (h - l).toNat ye.size)))
   | none => False
  | _ => False
def amo (T : Tab) (t : Nat) (x : A) (K : A → Prop) : Prop :=
 match x with
 | .d (.slice n _) => bg T t fun _ _ => K (.d (.int .i64 n))
 | .d .nil => bg T t fun _ _ => K (.d (.int .i64 0))
 | .own _ _ n _ => bg T t fun _ _ => K (.d (.int .i64 n))
 | .d (.str s) => Cd ((T t).any (·.k = .str) = true) (K (.d (.int .i64 s.size)))
 | _ => ix T t fun n _ _ => K (.d (.int .i64 n))
def ait (isMax : Bool) : List A → (A → Prop) → Prop
 | [.d (.int k x), .d (.int _ y)], K => EqE (if isMax then (if y > x then y else x) else (if y < x then y else x)) fun z => K (.d (.int k z))
 | _, _ => False
def tu (x : A) (i : Nat) (K : A → Prop) : Prop :=
 match x with
 | .d (.tup l) => ah l i fun x => K (.d x)
 | _ => False
def agx (c a b : A) (K : A → Prop) : Prop :=
 match c with
 | .d (.bool t) => Br t (K a) (K b)
 | _ => False
def ft (T : Tab) (ev : Operand → A) (hp : Nat → Option (Bool × List A)) (op : Op) (K : A → Prop) : Prop :=
 match op with
 | .move x | .assign x => K (ev x)
 | .pick c a b => agx (ev c) (ev a) (ev b) K
 | .build t parts => aaz T t (parts.toList.map fun p => (p.1, ev p.2)) K
 | .load t a => vm T hp t (ev a) K
 | .nilCheck x => match ev x with
  | .ptr b o => K (.ptr b o)
  | .elem c => K (.elem c)
  | _ => False
 | .binOp op xT x y _ => alw T op xT (ev x) (ev y) K
 | .unOp op _ x => azf op (ev x) K
 | .convert s d x => afq T s d (ev x) K
 | .slice t x lo hi mx => sj T hp t (ev x) (lo.map ev) (hi.map ev) (mx.map ev) K
 | .fieldAddr s x f => ry T s (ev x) f K
 | .field s x f => aeq T s (ev x) f K
 | .indexAddr t x i => oi T t (ev x) (ev i) K
 | .index t x i => abj T t (ev x) (ev i) K
 | .extract x i => tu (ev x) i K
 | .call c => match c.callee with
  | .builtin .len => match c.argTypes.toList, c.args.toList with
   | [t], [x] => amo T t (ev x) K
   | _, _ => False
  | .builtin .max => ait true (c.args.toList.map ev) K
  | .builtin .min => ait false (c.args.toList.map ev) K
  | _ => False
 | .makeFunc (.func f) first caps => match first.toList with
  | [] => K (.fn f (caps.toList.map ev))
  | _ => False
 | _ => False
end Go.Ev
