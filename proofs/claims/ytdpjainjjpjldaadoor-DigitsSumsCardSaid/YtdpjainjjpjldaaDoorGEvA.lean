/- Contracts of the given functions, on data. Conditions stand in each theorem. -/
import Derived.WalkKit
import Derived.Orders
import Derived.KernelRfl
import Derived.Laws.BytesArg
import Derived.Laws.BytesString
import Derived.Laws.Runes
set_option linter.unusedSimpArgs false
set_option linter.unusedVariables false
namespace Go.Ev
open Go
inductive D where
 | any
 | bool (b : Bool)
 | int (k : IntKind) (n : Int)
 | str (s : ByteArray)
 | raw (v : Value)
 | nil
 | slice (n : Nat) (cells : List D)
 | agg (cells : List D)
 | tup (vs : List D)
 | ptrd (cells : List D)
 | fnd (f : Nat) (caps : List D)
abbrev Imm := Nat → Nat → Prop
mutual
def DR (S : Imm) (w : World) : D → Value → Prop
 | .any, _ => True
 | .bool b, v => v = .bool b
 | .int k n, v => v = .int k n
 | .str s, v => v = .string s
 | .raw u, v => v = u
 | .nil, v => v = .slice none 0 0
 | .slice n cells, v => ∃ a c, v = .slice a n c ∧ n ≤ c ∧ (cells = [] ∨ ∃ b o, a = some ⟨b, o, none⟩ ∧ DRL S w b o cells)
 | .agg cells, v => ∃ vs, v = .agg vs ∧ DRs S w cells vs.toList
 | .tup cells, v => ∃ vs, v = .tuple vs ∧ DRs S w cells vs.toList
 | .ptrd cells, v => ∃ k o, v = .pointer (some ⟨k, o, none⟩) ∧ DRL S w k o cells
 | .fnd f cells, v => ∃ vs, v = .func (.func f) #[] vs ∧ DRs S w cells vs.toList
def DRL (S : Imm) (w : World) (b : Nat) : Nat → List D → Prop
 | _, [] => True
 | o, x :: xs => S b o ∧ (∃ u, w.cell? ⟨b, o, none⟩ = some u ∧ DR S w x u) ∧ DRL S w b (o + 1) xs
def DRs (S : Imm) (w : World) : List D → List Value → Prop
 | [], vs => vs = []
 | x :: xs, vs => ∃ u us, vs = u :: us ∧ DR S w x u ∧ DRs S w xs us
end
def lr (S : Imm) (w w' : World) : Prop := ∀ b o, S b o → w'.cell? ⟨b, o, none⟩ = w.cell? ⟨b, o, none⟩
def Imm.le (S S' : Imm) : Prop := ∀ b o, S b o → S' b o
mutual
theorem DR.mono {S S' : Imm} {w w' : World} (hS : S.le S') (hw : lr S w w') : ∀ {x : D} {v : Value}, DR S w x v → DR S' w' x v
 | .any, _, _ => by simp [DR]
 | .bool b, v, h => by simpa [DR] using h
 | .int k n, v, h => by simpa [DR] using h
 | .str s, v, h => by simpa [DR] using h
 | .raw u, v, h => by simpa [DR] using h
 | .nil, v, h => by simpa [DR] using h
 | .slice n cells, v, h => by
  simp only [DR] at h ⊢
  obtain ⟨a, c, hv, hc, h⟩ := h
  refine ⟨a, c, hv, hc, ?_⟩
  rcases h with h | ⟨b, o, ha, hl⟩
  ·exact .inl h
  ·exact .inr ⟨b, o, ha, DRL.mono hS hw hl⟩
 | .agg cells, v, h => by
  simp only [DR] at h ⊢
  obtain ⟨vs, hv, h⟩ := h
  exact ⟨vs, hv, DRs.mono hS hw h⟩
 | .tup cells, v, h => by
  simp only [DR] at h ⊢
  obtain ⟨vs, hv, h⟩ := h
  exact ⟨vs, hv, DRs.mono hS hw h⟩
 | .ptrd cells, v, h => by
  simp only [DR] at h ⊢
  obtain ⟨k, o, hv, h⟩ := h
  exact ⟨k, o, hv, DRL.mono hS hw h⟩
 | .fnd f cells, v, h => by
  simp only [DR] at h ⊢
  obtain ⟨vs, hv, h⟩ := h
  exact ⟨vs, hv, DRs.mono hS hw h⟩
theorem DRL.mono {S S' : Imm} {w w' : World} (hS : S.le S') (hw : lr S w w') {b : Nat} : ∀ {l : List D} {o : Nat}, DRL S w b o l → DRL S' w' b o l
 | [], _, _ => by simp [DRL]
 | x :: xs, o, h => by
  simp only [DRL] at h ⊢
  obtain ⟨h1, ⟨u, hu, hx⟩, h3⟩ := h
  exact ⟨hS _ _ h1, ⟨u, (hw _ _ h1).trans hu, DR.mono hS hw hx⟩, DRL.mono hS hw h3⟩
theorem DRs.mono {S S' : Imm} {w w' : World} (hS : S.le S') (hw : lr S w w') : ∀ {l : List D} {vs : List Value}, DRs S w l vs → DRs S' w' l vs
 | [], _, h => by simpa [DRs] using h
 | x :: xs, vs, h => by
  simp only [DRs] at h ⊢
  obtain ⟨u, us, rfl, hx, h3⟩ := h
  exact ⟨u, us, rfl, DR.mono hS hw hx, DRs.mono hS hw h3⟩
end
theorem ju {S : Imm} {w : World} {b : Nat} : ∀ {l : List D} {o : Nat}, DRL S w b o l → ∀ {j : Nat} {x : D}, l[j]? = some x → S b (o + j) ∧ ∃ u, w.cell? ⟨b, o + j, none⟩ = some u ∧ DR S w x u
 | [], _, _, _, _, h => by simp at h
 | y :: ys, o, h, 0, x, hx => by
  simp only [DRL] at h
  simp at hx; subst hx
  exact ⟨h.1, h.2.1⟩
 | y :: ys, o, h, j + 1, x, hx => by
  simp only [DRL] at h
  have := ju h.2.2 (j := j) (x := x) (by simpa using hx)
  have e : o + 1 + j = o + (j + 1) := by omega
  rwa [e] at this
theorem ik {S : Imm} {w : World} {b : Nat} : ∀ {l : List D} {o : Nat}, (∀ (j : Nat) (x : D), l[j]? = some x → S b (o + j) ∧ ∃ u, w.cell? ⟨b, o + j, none⟩ = some u ∧ DR S w x u) → DRL S w b o l
 | [], _, _ => by simp [DRL]
 | y :: ys, o, h => by
  simp only [DRL]
  refine ⟨(h 0 y rfl).1, (h 0 y rfl).2, ik fun j x hx => ?_⟩
  have := h (j + 1) x (by simpa using hx)
  have e : o + 1 + j = o + (j + 1) := by omega
  rwa [e]
theorem lq {S : Imm} {w : World} {b o : Nat} {l : List D} (h : DRL S w b o l) (n : Nat) : DRL S w b (o + n) (l.drop n) :=
 ik fun j x hx => by
  have := ju h (j := n + j) (x := x) (by simpa using hx)
  rwa [Nat.add_assoc]
theorem aak {S : Imm} {w : World} {b o : Nat} {l : List D} (h : DRL S w b o l) (n : Nat) : DRL S w b o (l.take n) :=
 ik fun j x hx => ju h (by
  rw [List.getElem?_take] at hx
  split at hx
  ·exact hx
  ·simp at hx)
theorem c8 {S : Imm} {w : World} : ∀ {l : List D} {vs : List Value}, DRs S w l vs → vs.length = l.length
 | [], _, h => by simp only [DRs] at h; simp [h]
 | x :: xs, vs, h => by
  simp only [DRs] at h
  obtain ⟨u, us, rfl, _, h3⟩ := h
  simp [c8 h3]
theorem fw {S : Imm} {w : World} : ∀ {l : List D} {vs : List Value}, DRs S w l vs → ∀ {j : Nat} {x : D}, l[j]? = some x → ∃ u, vs[j]? = some u ∧ DR S w x u
 | [], _, _, _, _, h => by simp at h
 | y :: ys, vs, h, 0, x, hx => by
  simp only [DRs] at h
  obtain ⟨u, us, rfl, h1, _⟩ := h
  simp at hx; subst hx
  exact ⟨u, rfl, h1⟩
 | y :: ys, vs, h, j + 1, x, hx => by
  simp only [DRs] at h
  obtain ⟨u, us, rfl, _, h3⟩ := h
  simpa using fw h3 (j := j) (x := x) (by simpa using hx)
theorem jq {S : Imm} {w : World} : ∀ {l : List D} {vs : List Value}, vs.length = l.length → (∀ (j : Nat) (x : D) (u : Value), l[j]? = some x → vs[j]? = some u → DR S w x u) → DRs S w l vs
 | [], vs, hl, _ => by simp only [DRs]; simpa using hl
 | y :: ys, [], hl, _ => by simp at hl
 | y :: ys, v :: vs, hl, h => by
  simp only [DRs]
  exact ⟨v, vs, rfl, h 0 y v rfl rfl, jq (by simpa using hl) fun j x u hx hu => h (j + 1) x u (by simpa using hx) (by simpa using hu)⟩
inductive A where
 | d (x : D)
 | ptr (b o : Nat)
 | tptr (b t n : Nat)
 | town (b n e : Nat)
 | elem (cells : List D)
 | own (b o n sz : Nat)
 | agg (cells : List A)
 | tup (cells : List A)
 | fn (f : Nat) (caps : List A)
abbrev Own := Nat → Option (Option Nat)
mutual
def AR (β : Own) (S : Imm) (w : World) : A → Value → Prop
 | .d x, v => DR S w x v
 | .ptr b o, v => ∃ k, β b = some (some k) ∧ v = .pointer (some ⟨k, o, none⟩)
 | .tptr b t n, v => ∃ k, β b = some (some k) ∧ v = .pointer (some ⟨k, 0, none⟩) ∧ ∃ C fr, w.heap[k]? = some (.cells C t fr) ∧ C.size = n
 | .town b n e, v => ∃ k, β b = some (some k) ∧ ∃ c C fr, v = .slice (some ⟨k, 0, none⟩) n c ∧ n ≤ c ∧ w.heap[k]? = some (.cells C e fr) ∧ c ≤ C.size
 | .elem cells, v => ∃ k o, v = .pointer (some ⟨k, o, none⟩) ∧ DRL S w k o cells
 | .own b o n sz, v => (∃ k, β b = some (some k) ∧ ∃ c C T fr, v = .slice (some ⟨k, o, none⟩) n c ∧ n ≤ c ∧ w.heap[k]? = some (.cells C T fr) ∧ o + c * sz ≤ C.size) ∨ (n = 0 ∧ β b ≠ none ∧ ∃ a, v = .slice a 0 0)
 | .agg l, v => ∃ vs, v = .agg vs ∧ ARs β S w l vs.toList
 | .tup l, v => ∃ vs, v = .tuple vs ∧ ARs β S w l vs.toList
 | .fn f l, v => ∃ vs, v = .func (.func f) #[] vs ∧ ARs β S w l vs.toList
def ARs (β : Own) (S : Imm) (w : World) : List A → List Value → Prop
 | [], vs => vs = []
 | x :: xs, vs => ∃ u us, vs = u :: us ∧ AR β S w x u ∧ ARs β S w xs us
end
def kd (w w' : World) : Prop := ∀ (k : Nat) C T fr, w.heap[k]? = some (.cells C T fr) → ∃ C', w'.heap[k]? = some (.cells C' T fr) ∧ C'.size = C.size
def Own.le (β β' : Own) : Prop := ∀ b k, β b = some k → β' b = some k
theorem Own.le.ne {β β' : Own} (h : β.le β') {b : Nat} (hb : β b ≠ none) : β' b ≠ none := by
 cases hk : β b with
 | none => exact absurd hk hb
 | some k => rw [h b k hk]; simp
mutual
theorem AR.mono {β β' : Own} {S S' : Imm} {w w' : World} (hβ : β.le β') (hS : S.le S') (hw : lr S w w') (hs : kd w w') : ∀ {x : A} {v : Value}, AR β S w x v → AR β' S' w' x v
 | .d x, v, h => by simp only [AR] at h ⊢; exact DR.mono hS hw h
 | .ptr b o, v, h => by
  simp only [AR] at h ⊢
  obtain ⟨k, hk, hv⟩ := h
  exact ⟨k, hβ _ _ hk, hv⟩
 | .tptr b t n, v, h => by
  simp only [AR] at h ⊢
  obtain ⟨k, hk, hv, C, fr, hC, hn⟩ := h
  obtain ⟨C', hC', hsz⟩ := hs k C t fr hC
  exact ⟨k, hβ _ _ hk, hv, C', fr, hC', by omega⟩
 | .town b n e, v, h => by
  simp only [AR] at h ⊢
  obtain ⟨k, hk, c, C, fr, hv, hc, hC, hl⟩ := h
  obtain ⟨C', hC', hsz⟩ := hs k C e fr hC
  exact ⟨k, hβ _ _ hk, c, C', fr, hv, hc, hC', by omega⟩
 | .elem cells, v, h => by
  simp only [AR] at h ⊢
  obtain ⟨k, o, hv, h⟩ := h
  exact ⟨k, o, hv, DRL.mono hS hw h⟩
 | .own b o n sz, v, h => by
  simp only [AR] at h ⊢
  rcases h with ⟨k, hk, c, C, T, fr, hv, hc, hC, hl⟩ | h
  ·obtain ⟨C', hC', hsz⟩ := hs k C T fr hC
   exact .inl ⟨k, hβ _ _ hk, c, C', T, fr, hv, hc, hC', by omega⟩
  ·exact .inr ⟨h.1, hβ.ne h.2.1, h.2.2⟩
 | .agg l, v, h => by
  simp only [AR] at h ⊢
  obtain ⟨vs, hv, h⟩ := h
  exact ⟨vs, hv, ARs.mono hβ hS hw hs h⟩
 | .tup l, v, h => by
  simp only [AR] at h ⊢
  obtain ⟨vs, hv, h⟩ := h
  exact ⟨vs, hv, ARs.mono hβ hS hw hs h⟩
 | .fn f l, v, h => by
  simp only [AR] at h ⊢
  obtain ⟨vs, hv, h⟩ := h
  exact ⟨vs, hv, ARs.mono hβ hS hw hs h⟩
theorem ARs.mono {β β' : Own} {S S' : Imm} {w w' : World} (hβ : β.le β') (hS : S.le S') (hw : lr S w w') (hs : kd w w') : ∀ {l : List A} {vs : List Value}, ARs β S w l vs → ARs β' S' w' l vs
 | [], _, h => by simpa [ARs] using h
 | x :: xs, vs, h => by
  simp only [ARs] at h ⊢
  obtain ⟨u, us, rfl, hx, h3⟩ := h
  exact ⟨u, us, rfl, AR.mono hβ hS hw hs hx, ARs.mono hβ hS hw hs h3⟩
end
theorem c7 {β : Own} {S : Imm} {w : World} : ∀ {l : List A} {vs : List Value}, ARs β S w l vs → vs.length = l.length
 | [], _, h => by simp only [ARs] at h; simp [h]
 | x :: xs, vs, h => by
  simp only [ARs] at h
  obtain ⟨u, us, rfl, _, h3⟩ := h
  simp [c7 h3]
theorem gm {β : Own} {S : Imm} {w : World} : ∀ {l : List A} {vs : List Value}, ARs β S w l vs → ∀ {j : Nat} {x : A}, l[j]? = some x → ∃ u, vs[j]? = some u ∧ AR β S w x u
 | [], _, _, _, _, h => by simp at h
 | y :: ys, vs, h, 0, x, hx => by
  simp only [ARs] at h
  obtain ⟨u, us, rfl, h1, _⟩ := h
  simp at hx; subst hx
  exact ⟨u, rfl, h1⟩
 | y :: ys, vs, h, j + 1, x, hx => by
  simp only [ARs] at h
  obtain ⟨u, us, rfl, _, h3⟩ := h
  simpa using gm h3 (j := j) (x := x) (by simpa using hx)
theorem pw {β : Own} {S : Imm} {w : World} : ∀ {l : List A} {vs : List Value}, vs.length = l.length → (∀ (j : Nat) (x : A) (u : Value), l[j]? = some x → vs[j]? = some u → AR β S w x u) → ARs β S w l vs
 | [], vs, hl, _ => by simp only [ARs]; simpa using hl
 | y :: ys, [], hl, _ => by simp at hl
 | y :: ys, v :: vs, hl, h => by
  simp only [ARs]
  exact ⟨v, vs, rfl, h 0 y v rfl rfl, pw (by simpa using hl) fun j x u hx hu => h (j + 1) x u (by simpa using hx) (by simpa using hu)⟩
def pe : List A → Option (List D)
 | [] => some []
 | .d x :: l => (pe l).map (x :: ·)
 | _ :: _ => none
@[simp] theorem ago : ∀ (l : List D), pe (l.map A.d) = some l
 | [] => rfl
 | x :: l => by simp [pe, ago l]
theorem aea : ∀ {l : List A} {ds : List D}, pe l = some ds → l = ds.map A.d
 | [], ds, h => by simp [pe] at h; simp [h]
 | .d x :: l, ds, h => by
  simp only [pe, Option.map_eq_some_iff] at h
  obtain ⟨e, he, rfl⟩ := h
  simp [← aea he]
 | .ptr .. :: l, ds, h => by simp [pe] at h
 | .tptr .. :: l, ds, h => by simp [pe] at h
 | .town .. :: l, ds, h => by simp [pe] at h
 | .elem .. :: l, ds, h => by simp [pe] at h
 | .own .. :: l, ds, h => by simp [pe] at h
 | .agg .. :: l, ds, h => by simp [pe] at h
 | .tup .. :: l, ds, h => by simp [pe] at h
 | .fn .. :: l, ds, h => by simp [pe] at h
def te (l : List A) : A := match pe l with
 | some ds => .d (.agg ds)
 | none => .agg l
@[simp] theorem amf (l : List D) : te (l.map A.d) = .d (.agg l) := by simp [te]
theorem ab8 {β : Own} {S : Imm} {w : World} {ds : List D} {vs : List Value} (h : ARs β S w (ds.map A.d) vs) : DRs S w ds vs :=
 jq (by simpa using c7 h) fun j x u hx hu => by
  obtain ⟨u', hu', h'⟩ := gm h (j := j) (x := .d x) (by simp [hx])
  rw [hu] at hu'; cases hu'
  simpa [AR] using h'
theorem ab6 {β : Own} {S : Imm} {w : World} {ds : List D} {vs : List Value} (h : DRs S w ds vs) : ARs β S w (ds.map A.d) vs :=
 pw (by simpa using c8 h) fun j x u hx hu => by
  simp only [List.getElem?_map, Option.map_eq_some_iff] at hx
  obtain ⟨y, hy, rfl⟩ := hx
  obtain ⟨u', hu', h'⟩ := fw h hy
  rw [hu] at hu'; cases hu'
  simpa [AR] using h'
theorem qk {β : Own} {S : Imm} {w : World} {l : List A} {vs : Array Value} (h : ARs β S w l vs.toList) : AR β S w (te l) (.agg vs) := by
 unfold te
 split
 ·rename_i ds hds
  rw [aea hds] at h
  simp only [AR, DR]
  exact ⟨vs, rfl, ab8 h⟩
 ·simp only [AR]
  exact ⟨vs, rfl, h⟩
def A.cells : A → List A
 | .d (.agg l) => l.map A.d
 | .agg l => l
 | x => [x]
def A.one : A → Bool
 | .d .any | .d (.agg _) | .d (.tup _) | .d (.fnd _ _) | .agg _ | .tup _ | .fn _ _ => false
 | .d (.raw v) => v.oneCell'
 | _ => true
def A.full : A → Bool
 | .d .any | .d (.tup _) | .d (.fnd _ _) | .tup _ | .fn _ _ => false
 | .d (.raw v) => v.oneCell'
 | _ => true
end Go.Ev

namespace Go.Ev
open Go
inductive ZK where
 | bool | int (k : IntKind) | str | nil | ptr | iface | func
 deriving DecidableEq
def ZK.toD : ZK → D
 | .bool => .bool false
 | .int k => .int k 0
 | .str => .str ⟨#[]⟩
 | .nil => .nil
 | .ptr => .raw (.pointer none)
 | .iface => .raw .nilIface
 | .func => .raw .nilFunc
def ZK.chk : ZK → Value → Bool
 | .bool, .bool false => true
 | .int k, .int k' 0 => k == k'
 | .str, .string s => s.data.toList.isEmpty
 | .nil, .slice none 0 0 => true
 | .ptr, .pointer none => true
 | .iface, .nilIface => true
 | .func, .nilFunc => true
 | _, _ => false
def ZK.ru : List ZK → List Value → Bool
 | [], [] => true
 | z :: zs, v :: vs => z.chk v && ZK.ru zs vs
 | _, _ => false
def ZK.val : ZK → Value
 | .bool => .bool false
 | .int k => .int k 0
 | .str => .string ⟨#[]⟩
 | .nil => .slice none 0 0
 | .ptr => .pointer none
 | .iface => .nilIface
 | .func => .nilFunc
theorem ZK.ai7 {z : ZK} {v : Value} (h : z.chk v = true) : v = z.val := by
 unfold ZK.chk at h
 split at h <;> simp_all [ZK.val]
 rename_i s
 obtain ⟨⟨l⟩⟩ := s
 simp at h
 simp [h]
theorem ZK.aas : ∀ {zs : List ZK} {vs : List Value}, ZK.ru zs vs = true → vs = zs.map ZK.val
 | [], [], _ => rfl
 | z :: zs, v :: vs, h => by
  simp only [ZK.ru, Bool.and_eq_true] at h
  simp [ZK.ai7 h.1, ZK.aas h.2]
 | [], _ :: _, h => by simp [ZK.ru] at h
 | _ :: _, [], h => by simp [ZK.ru] at h
theorem ZK.akk {S : Imm} {w : World} (z : ZK) : DR S w z.toD z.val := by cases z <;> simp [ZK.toD, ZK.val, DR]
inductive TK where
 | bool | int (k : IntKind) | str
 | slice (e : Nat) | array (n e : Nat)
 | struct (fs : List (Nat × Nat × Bool))   -- where, how many cells, struct or array
 | other
 deriving DecidableEq
structure Ty where
 size : Nat
 bytes : Nat
 isAgg : Bool
 k : TK
 zero : List ZK
 tag : Bool := false
abbrev Tab := Nat → Option Ty
def gn : TypeDesc → Bool
 | .struct _ | .array _ _ => true
 | _ => false
def ec (P : Program) : List (Nat × Nat × Bool) → List Field → Bool
 | [], [] => true
 | (o, s, g) :: l, f :: fs => f.offset == o && s != 0 && (match P.info? f.type, P.underlying f.type with | some i, some d => i.size == s && gn d == g | _, _ => false) && ec P l fs
 | _, _ => false
def TK.chk (P : Program) : TK → TypeDesc → Bool
 | .bool, .bool => true
 | .int k, .int k' => k == k'
 | .str, .string => true
 | .slice e, .slice e' => e == e'
 | .array n e, .array n' e' => n == n' && e == e'
 | .struct l, .struct fs => ec P l fs.toList
 | .other, .pointer _ | .other, .interface _ | .other, .func _ _ _ | .other, .tuple _ => true
 | _, _ => false
def Ty.chk (P : Program) (t : Nat) (y : Ty) : Bool :=
 match P.info? t, P.underlying t with
 | some i, some d => i.size == y.size && i.bytes == y.bytes && gn d == y.isAgg && y.k.chk P d && (match i.zero with | some z => y.zero.isEmpty || ZK.ru y.zero z.cells.toList | none => y.zero.isEmpty)
 | _, _ => false
structure bw (P : Program) (T : Tab) : Prop where
 ty : ∀ t y, T t = some y → y.chk P t = true
 mix : P.follows .mixedOrders = true
section
variable {P : Program} {T : Tab} (hT : bw P T) {t : Nat} {y : Ty} (ht : T t = some y) (w : World)
include hT ht
theorem Ty.info : ∃ i d, P.info? t = some i ∧ P.underlying t = some d ∧ i.size = y.size ∧ i.bytes = y.bytes ∧ gn d = y.isAgg ∧ y.k.chk P d = true ∧ (y.zero = [] ∨ ∃ z, i.zero = some z ∧ z.cells.toList = y.zero.map ZK.val) := by
 have h := hT.ty t y ht
 unfold Ty.chk at h
 split at h
 ·rename_i i d hi hd
  simp only [Bool.and_eq_true, beq_iff_eq] at h
  obtain ⟨⟨⟨⟨h1, h2⟩, h3⟩, h4⟩, h5⟩ := h
  refine ⟨i, d, hi, hd, h1, h2, h3, h4, ?_⟩
  split at h5
  ·rename_i z hz
   simp only [Bool.or_eq_true, List.isEmpty_iff] at h5
   rcases h5 with h5 | h5
   ·exact .inl h5
   ·exact .inr ⟨z, hz, ZK.aas h5⟩
  ·exact .inl (by simpa using h5)
 ·simp at h
theorem b7 : (sizeOf t).run P w = .ok y.size w := by
 obtain ⟨i, d, hi, hd, h1, _⟩ := Ty.info hT ht
 simp [sizeOf, typeInfo, hi, h1]
theorem ll : ∃ i, (typeInfo t).run P w = .ok i w ∧ i.bytes = y.bytes ∧ i.size = y.size := by
 obtain ⟨i, d, hi, hd, h1, h2, _⟩ := Ty.info hT ht
 exact ⟨i, by simp [typeInfo, hi], h2, h1⟩
theorem adw : (isAgg t).run P w = .ok y.isAgg w := by
 obtain ⟨i, d, hi, hd, h1, h2, h3, _⟩ := Ty.info hT ht
 simp only [isAgg, Sem.run_bind, run_underlying hd, Result.andThen_ok]
 rw [← h3]
 unfold gn
 split <;> simp
theorem l6 (hz : y.zero ≠ []) : ∃ z, (zeroValue t).run P w = .ok z w ∧ z.cells.toList = y.zero.map ZK.val := by
 obtain ⟨i, d, hi, hd, h1, h2, h3, _, h4⟩ := Ty.info hT ht
 rcases h4 with h4 | ⟨z, h4, h5⟩
 ·exact absurd h4 hz
 ·exact ⟨z, by simp [zeroValue, typeInfo, hi, h4], h5⟩
theorem oq {e : Nat} (hk : y.k = .slice e) : P.underlying t = some (.slice e) := by
 obtain ⟨i, d, hi, hd, _, _, _, h, _⟩ := Ty.info hT ht
 rw [hk] at h
 unfold TK.chk at h
 split at h <;> simp_all
theorem tn {n e : Nat} (hk : y.k = .array n e) : P.underlying t = some (.array n e) := by
 obtain ⟨i, d, hi, hd, _, _, _, h, _⟩ := Ty.info hT ht
 rw [hk] at h
 unfold TK.chk at h
 split at h <;> simp_all
theorem yr {k : IntKind} (hk : y.k = .int k) : P.underlying t = some (.int k) := by
 obtain ⟨i, d, hi, hd, _, _, _, h, _⟩ := Ty.info hT ht
 rw [hk] at h
 unfold TK.chk at h
 split at h <;> simp_all
theorem ad5 (hk : y.k = .bool) : P.underlying t = some .bool := by
 obtain ⟨i, d, hi, hd, _, _, _, h, _⟩ := Ty.info hT ht
 rw [hk] at h
 unfold TK.chk at h
 split at h <;> simp_all
theorem ia (hk : y.k = .str) : P.underlying t = some .string := by
 obtain ⟨i, d, hi, hd, _, _, _, h, _⟩ := Ty.info hT ht
 rw [hk] at h
 unfold TK.chk at h
 split at h <;> simp_all
omit hT ht in
theorem pk {P : Program} : ∀ {l : List (Nat × Nat × Bool)} {fs : List Field}, ec P l fs = true → ∀ {f o s : Nat} {g : Bool}, l[f]? = some (o, s, g) → ∃ F, fs[f]? = some F ∧ F.offset = o ∧ s ≠ 0 ∧ ∃ i d, P.info? F.type = some i ∧ P.underlying F.type = some d ∧ i.size = s ∧ gn d = g
 | [], [], _, f, o, s, g, h => by simp at h
 | (o', s', g') :: l, F :: fs, hc, 0, o, s, g, h => by
  simp at h
  obtain ⟨rfl, rfl, rfl⟩ := h
  simp only [ec, Bool.and_eq_true, beq_iff_eq] at hc
  obtain ⟨⟨⟨h1, h2⟩, h3⟩, h4⟩ := hc
  split at h3
  ·rename_i i d hi hd
   simp at h3
   exact ⟨F, rfl, h1, by simpa using h2, i, d, hi, hd, h3.1, h3.2⟩
  ·simp at h3
 | (o', s', g') :: l, F :: fs, hc, f + 1, o, s, g, h => by
  simp only [ec, Bool.and_eq_true] at hc
  obtain ⟨F', h1, h2⟩ := pk hc.2 (f := f) (by simpa using h)
  exact ⟨F', by simpa using h1, h2⟩
 | [], _ :: _, h, _, _, _, _, _ => by simp [ec] at h
 | _ :: _, [], h, _, _, _, _, _ => by simp [ec] at h
theorem aaf {l : List (Nat × Nat × Bool)} (hk : y.k = .struct l) : ∃ fs, P.underlying t = some (.struct fs) ∧ ∀ {f o s : Nat} {g : Bool}, l[f]? = some (o, s, g) → ∃ F, fs[f]? = some F ∧ F.offset = o ∧ s ≠ 0 ∧ ∃ i d, P.info? F.type = some i ∧ P.underlying F.type = some d ∧ i.size = s ∧ gn d = g := by
 obtain ⟨i, d, hi, hd, _, _, _, h, _⟩ := Ty.info hT ht
 rw [hk] at h
 have key : ∃ fs, d = .struct fs ∧ ec P l fs.toList = true := by
  cases d <;> first | (simp [TK.chk] at h; done) | exact ⟨_, rfl, by simpa [TK.chk] using h⟩
 obtain ⟨fs, rfl, hc⟩ := key
 refine ⟨fs, hd, fun {f o s g} hf => ?_⟩
 obtain ⟨F, h1, h2⟩ := pk hc hf
 exact ⟨F, by simpa using h1, h2⟩
end
def nth {α : Type} (d : α) : List α → Nat → α
 | [], _ => d
 | x :: _, 0 => x
 | _ :: l, n + 1 => nth d l n
theorem aer {α : Type} {d : α} : ∀ {l : List α} {n : Nat}, n < l.length → l[n]? = some (nth d l n)
 | [], n, h => by simp at h
 | x :: l, 0, _ => rfl
 | x :: l, n + 1, h => by simpa [nth] using aer (l := l) (n := n) (by simpa using h)
def setAt {α : Type} : List α → Nat → List α → List α
 | l, _, [] => l
 | l, o, x :: xs => setAt (l.set o x) (o + 1) xs
theorem iu {α : Type} : ∀ (xs l : List α) (o : Nat), (setAt l o xs).length = l.length
 | [], l, o => rfl
 | x :: xs, l, o => by simp [setAt, iu xs]
def y8 : Value → D
 | .bool b => .bool b
 | .int k n => .int k n
 | .string s => .str s
 | .slice none 0 0 => .nil
 | v => .raw v
def acj : Value → A
 | .agg cs => .d (.agg (cs.toList.map y8))
 | v => .d (y8 v)
theorem aal {S : Imm} {w : World} (v : Value) : DR S w (y8 v) v := by
 unfold y8
 split <;> simp [DR]
theorem agk {β : Own} {S : Imm} {w : World} (v : Value) : AR β S w (acj v) v := by
 unfold acj
 split
 ·rename_i cs
  simp only [AR, DR]
  refine ⟨cs, rfl, jq (by simp) fun j x u hx hu => ?_⟩
  simp only [List.getElem?_map, Option.map_eq_some_iff] at hx
  obtain ⟨u', hu', rfl⟩ := hx
  rw [hu] at hu'; cases hu'
  exact aal u
 ·simp only [AR]; exact aal v
end Go.Ev

namespace Go.Ev
open Go
structure Cd (c k : Prop) : Prop where
 c : c
 k : k
structure Br (t : Bool) (a b : Prop) : Prop where
 tt : t = true → a
 ff : t = false → b
theorem Br.dec {p : Prop} [Decidable p] {a b : Prop} (ha : p → a) (hb : ¬ p → b) : Br (decide p) a b := ⟨fun h => ha (of_decide_eq_true h), fun h => hb (of_decide_eq_false h)⟩
theorem Br.br {p : Prop} [Decidable p] {a b : Prop} (ha : ¬ p → a) (hb : p → b) : Br (!decide p) a b := ⟨fun h => ha (of_decide_eq_false (by simpa using h)), fun h => hb (of_decide_eq_true (by simpa using h))⟩
theorem Br.not {t : Bool} {a b : Prop} (h : Br t b a) : Br (!t) a b := ⟨fun e => h.ff (by simpa using e), fun e => h.tt (by simpa using e)⟩
theorem Br.t {a b : Prop} (h : a) : Br true a b := ⟨fun _ => h, (fun e => nomatch e)⟩
theorem Br.f {a b : Prop} (h : b) : Br false a b := ⟨(fun e => nomatch e), fun _ => h⟩
inductive ao {α : Type} (l : List α) (i : Nat) (K : α → Prop) : Prop where
 | mk (x : α) (h : l[i]? = some x) (k : K x)
inductive TkE {α : Type} (l : List α) (o s : Nat) (K : List α → Prop) : Prop where
 | mk (xs : List α) (h : (l.drop o).take s = xs) (hl : xs.length = s) (k : K xs)
inductive EqE {α : Type} (x : α) (K : α → Prop) : Prop where
 | mk (y : α) (h : x = y) (k : K y)
inductive DsE (l : List A) (K : List D → Prop) : Prop where
 | mk (ds : List D) (h : l = ds.map A.d) (k : K ds)
def Ty.alr (y : Ty) : Bool := match y.k with | .slice _ => true | _ => false
def Ty.isApp (y : Ty) : Bool := match y.k with | .slice _ => true | .str => true | _ => false
def acz (op : BinOp) (k : IntKind) (x y : Int) (K : A → Prop) : Prop :=
 match op with
 | .add => EqE (k.wrap (x + y)) fun z => K (.d (.int k z))
 | .sub => EqE (k.wrap (x - y)) fun z => K (.d (.int k z))
 | .mul => EqE (k.wrap (x * y)) fun z => K (.d (.int k z))
 | .quo => Cd (y ≠ 0) (EqE (k.wrap (x.tdiv y)) fun z => K (.d (.int k z)))
 | .rem => Cd (y ≠ 0) (EqE (x.tmod y) fun z => K (.d (.int k z)))
 | .and => EqE (k.wrap (BitVec.ofInt k.bits x &&& BitVec.ofInt k.bits y).toNat) fun z => K (.d (.int k z))
 | .or => EqE (k.wrap (BitVec.ofInt k.bits x ||| BitVec.ofInt k.bits y).toNat) fun z => K (.d (.int k z))
 | .xor => EqE (k.wrap (BitVec.ofInt k.bits x ^^^ BitVec.ofInt k.bits y).toNat) fun z => K (.d (.int k z))
 | .andNot => EqE (k.wrap (BitVec.ofInt k.bits x &&& ~~~ BitVec.ofInt k.bits y).toNat) fun z => K (.d (.int k z))
 | .eql => K (.d (.bool (decide (x = y))))
 | .neq => K (.d (.bool (!decide (x = y))))
 | .lss => K (.d (.bool (decide (x < y))))
 | .leq => K (.d (.bool (decide (x ≤ y))))
 | .gtr => K (.d (.bool (decide (x > y))))
 | .geq => K (.d (.bool (decide (x ≥ y))))
 | .shl | .shr => False
def aap (T : Tab) (op : BinOp) (xT : Nat) (a b : A) (K : A → Prop) : Prop :=
 match a, b with
 | .d (.int k x), .d (.int k' y) =>
  match op with
  | .shl => Cd (0 ≤ y) (EqE (k.wrap (x * 2 ^ min y.toNat k.bits)) fun z => K (.d (.int k z)))
  | .shr => Cd (0 ≤ y) (EqE (x.fdiv (2 ^ min y.toNat k.bits)) fun z => K (.d (.int k z)))
  | op => Cd (k = k') (acz op k x y K)
 | .d (.bool x), .d (.bool y) =>
  Cd ((T xT).any (·.k = .bool) = true) (match op with
   | .eql => K (.d (.bool (x == y)))
   | .neq => K (.d (.bool (!(x == y))))
   | _ => False)
 | .d (.str x), .d (.str y) =>
  match op with
  | .add => Cd (x.size + y.size ≤ 2 ^ 60) (EqE (x ++ y) fun z => K (.d (.str z)))
  | .eql => EqE (x.toList == y.toList) fun z => K (.d (.bool z))
  | .neq => EqE (!(x.toList == y.toList)) fun z => K (.d (.bool z))
  | .lss => K (.d (.bool (Op.bytesLess x.toList y.toList)))
  | .gtr => K (.d (.bool (!(Op.bytesLess x.toList y.toList || x.toList == y.toList))))
  | .leq => K (.d (.bool (Op.bytesLess x.toList y.toList || x.toList == y.toList)))
  | .geq => K (.d (.bool (!Op.bytesLess x.toList y.toList)))
  | _ => False
 | .d (.slice _ cells), .d .nil =>
  Cd ((T xT).any Ty.alr = true) (match op with
   | .eql => (cells = [] → K (.d (.bool true))) ∧ K (.d (.bool false))
   | .neq => (cells = [] → K (.d (.bool false))) ∧ K (.d (.bool true))
   | _ => False)
 | _, _ => False
def ait (op : UnOp) (a : A) (K : A → Prop) : Prop :=
 match op, a with
 | .neg, .d (.int k n) => EqE (k.wrap (0 - n)) fun z => K (.d (.int k z))
 | .xor, .d (.int k n) => EqE (k.wrap (BitVec.ofInt k.bits (if k.signed then -1 else k.max) ^^^ BitVec.ofInt k.bits n).toNat) fun z => K (.d (.int k z))
 | .not, .d (.bool b) => K (.d (.bool !b))
 | _, _ => False
def bh (T : Tab) (t : Nat) (K : Nat → Ty → Prop) : Prop :=
 match T t with
 | some y => match y.k with
  | .slice e => match T e with
   | some ye => K e ye
   | none => False
  | _ => False
 | none => False
def fo (T : Tab) (t : Nat) (K : Nat → Nat → Ty → Prop) : Prop :=
 match T t with
 | some y => match y.k with
  | .array n e => match T e with
   | some ye => K n e ye
   | none => False
  | _ => False
 | none => False
def iy (T : Tab) (t : Nat) (K : List (Nat × Nat × Bool) → Prop) : Prop :=
 match T t with
 | some y => match y.k with
  | .struct l => K l
  | _ => False
 | none => False
def mq (T : Tab) (hp : Nat → Option (Bool × List A)) (t : Nat) (a : A) (K : A → Prop) : Prop :=
 match T t with
 | some y => match a with
  | .ptr b o => match hp b with
   | some (_, l) => match y.isAgg with
    | true => TkE l o y.size fun xs => K (te xs)
    | false => ao l o K
   | none => False
  | .elem cells => match y.isAgg with
   | true => TkE cells 0 y.size fun xs => K (.d (.agg xs))
   | false => ao cells 0 fun x => K (.d x)
  | _ => False
 | none => False
def qf (g : Bool) (o s : Nat) (x : A) (K : A → Prop) : Prop :=
 match x with
 | .d (.agg l) => match g with
  | true => TkE l o s fun xs => K (.d (.agg xs))
  | false => ao l o fun x => K (.d x)
 | .agg l => match g with
  | true => TkE l o s fun xs => K (te xs)
  | false => ao l o K
 | _ => False
def ky (T : Tab) (s : Nat) (a : A) (f : Nat) (K : A → Prop) : Prop :=
 iy T s fun l => match l[f]? with
  | some (off, _, _) => match a with
   | .ptr b o => K (.ptr b (o + off))
   | .tptr b _ _ => K (.ptr b off)
   | .elem cells => K (.elem (cells.drop off))
   | _ => False
  | none => False
def ub (T : Tab) (s : Nat) (a : A) (f : Nat) (K : A → Prop) : Prop :=
 iy T s fun l => match l[f]? with
  | some (off, sz, g) => qf g off sz a K
  | none => False
def jm (T : Tab) (t : Nat) (x i : A) (K : A → Prop) : Prop :=
 match i with
 | .d (.int _ i) =>
  match x with
  | .d (.slice n cells) => bh T t fun _ ye => Cd ((0 ≤ i ∧ i < n) ∧ i.toNat * ye.size < cells.length) (K (.elem (cells.drop (i.toNat * ye.size))))
  | .own b o n sz => bh T t fun _ ye => Cd (sz = ye.size) (Cd (0 ≤ i ∧ i < n) (K (.ptr b (o + i.toNat * ye.size))))
  | .ptr b o => fo T t fun n _ ye => Cd (0 ≤ i ∧ i < n) (K (.ptr b (o + i.toNat * ye.size)))
  | .elem cells => fo T t fun n _ ye => Cd (0 ≤ i ∧ i < n) (K (.elem (cells.drop (i.toNat * ye.size))))
  | _ => False
 | _ => False
def q3 (T : Tab) (t : Nat) (x i : A) (K : A → Prop) : Prop :=
 match i with
 | .d (.int _ i) =>
  match x with
  | .d (.str s) => Cd ((T t).any (·.k = .str) = true) (Cd (0 ≤ i ∧ i < s.size) (EqE (((nth 0 s.data.toList i.toNat).toNat : Nat) : Int) fun z => K (.d (.int .u8 z))))
  | x => fo T t fun n _ ye => Cd (0 ≤ i ∧ i < n) (qf ye.isAgg (i.toNat * ye.size) ye.size x K)
 | _ => False
inductive BtE (l : List D) (K : List UInt8 → Prop) : Prop where
 | mk (bs : List UInt8) (h : l = bs.map fun x => D.int .u8 (x.toNat : Int)) (k : K bs)
def aav (T : Tab) (src dst : Nat) : Bool := (match T src with
 | some y => match y.k with
  | .slice e => (T e).any (·.k = .int .u8)
  | _ => false
 | none => false) && (T dst).any (·.k = .str)
def nq (T : Tab) (hp : Nat → Option (Bool × List A)) (src dst : Nat) (a : A) (K : A → Prop) : Prop :=
 match a with
 | .d (.int _ n) => Cd ((T src).isSome = true) (match T dst with
  | some y => match y.k with
   | .int k => EqE (k.wrap n) fun z => K (.d (.int k z))
   | .str => EqE (Utf8.encode n) fun s => K (.d (.str s))
   | _ => False
  | none => False)
 | .d (.str s) => Cd ((T src).any (·.k = .str) = true) (Cd ((T dst).any (·.k = .str) = true) (K (.d (.str s))))
 | .d .nil => Cd (aav T src dst = true) (K (.d (.str ByteArray.empty)))
 | .d (.slice n l) => Cd (aav T src dst = true) (Cd (l.length = n) (BtE l fun bs => K (.d (.str ⟨bs.toArray⟩))))
 | .own b o n sz => match hp b with
  | some (_, l) => Cd (aav T src dst = true) (DsE l fun ds => Cd (sz = 1 ∧ o + n ≤ l.length) (BtE ((ds.drop o).take n) fun bs => K (.d (.str ⟨bs.toArray⟩))))
  | none => False
 | _ => False
def ag {α : Type} : List α → (List α → Prop) → Prop
 | [], K => K []
 | x :: l, K => ag l fun l => K (x :: l)
theorem fc {α : Type} : ∀ (l : List α) (K : List α → Prop), ag l K = K l
 | [], K => rfl
 | x :: l, K => by rw [ag, fc l]
theorem EqE.fL {α : Type} {l : List α} {K : List α → Prop} (h : ag l K) : EqE l K := ⟨l, rfl, by rw [fc] at h; exact h⟩
theorem TkE.fL {α : Type} {l : List α} {o s : Nat} {K : List α → Prop} (h : ag ((l.drop o).take s) fun xs => Cd (xs.length = s) (K xs)) : TkE l o s K := by
 rw [fc] at h
 exact ⟨_, rfl, h.c, h.k⟩
def q0 (place : Nat → Option (Nat × Nat)) (cells : List A) : List (Nat × A) → (List A → Prop) → Prop
 | [], K => K cells
 | (i, v) :: rest, K =>
  match place i with
  | none => False
  | some (off, size) => Cd (v.full = true) (Cd (v.cells.length = size) (Cd (off + size ≤ cells.length) (ag (setAt cells off v.cells) fun cells => q0 place cells rest K)))
def k9 (z : List ZK) : List A := z.map fun x => .d x.toD
def qs (T : Tab) (t : Nat) (parts : List (Nat × A)) (K : A → Prop) : Prop :=
 match T t with
 | some y => Cd ((!y.zero.isEmpty && y.isAgg) = true) (match y.k with
  | .struct l => q0 (fun i => (l[i]?).map fun x => (x.1, x.2.1)) (k9 y.zero) parts fun c => K (te c)
  | .array _ e => match T e with
   | some ye => q0 (fun i => some (i * ye.size, ye.size)) (k9 y.zero) parts fun c => K (te c)
   | none => False
  | _ => False)
 | none => False
def gp (x : Option A) (d : Int) (K : Int → Prop) : Prop :=
 match x with
 | none => K d
 | some (.d (.int _ i)) => K i
 | _ => False
def k8 (T : Tab) (hp : Nat → Option (Bool × List A)) (t : Nat) (x : A) (lo hi mx : Option A) (K : A → Prop) : Prop :=
 match mx with
 | some _ => False
 | none =>
  match x with
  | .d (.str s) => Cd ((T t).any (·.k = .str) = true) (gp lo 0 fun l => gp hi s.size fun h => Cd (0 ≤ l ∧ l ≤ h ∧ h ≤ s.size) (EqE (s.extract l.toNat h.toNat) fun z => K (.d (.str z))))
  | .d (.slice n cells) => bh T t fun _ ye => gp lo 0 fun l => gp hi n fun h => Cd (0 ≤ l ∧ l ≤ h ∧ h ≤ n) (EqE (.slice (h - l).toNat ((cells.drop (l.toNat * ye.size)).take ((h - l).toNat * ye.size))) fun y => K (.d y))
  | .own b o n sz => bh T t fun _ ye => Cd (sz = ye.size) (gp lo 0 fun l => gp hi n fun h => Cd (0 ≤ l ∧ l ≤ h ∧ h ≤ n) (K (.own b (o + l.toNat * ye.size) (h - l).toNat sz)))
  | .ptr b o => match hp b with
   | some (_, cells) => fo T t fun n _ ye => Cd (o + n * ye.size ≤ cells.length) (gp lo 0 fun l => gp hi n fun h => Cd (0 ≤ l ∧ l ≤ h ∧ h ≤ n) (K (.own b (o + l.toNat * ye.size) (h - l).toNat ye.size)))
   | none => False
  | _ => False
def abb (T : Tab) (t : Nat) (x : A) (K : A → Prop) : Prop :=
 match x with
 | .d (.slice n _) => bh T t fun _ _ => K (.d (.int .i64 n))
 | .d .nil => bh T t fun _ _ => K (.d (.int .i64 0))
 | .own _ _ n _ => bh T t fun _ _ => K (.d (.int .i64 n))
 | .d (.str s) => Cd ((T t).any (·.k = .str) = true) (EqE ((s.size : Nat) : Int) fun z => K (.d (.int .i64 z)))
 | _ => fo T t fun n _ _ => K (.d (.int .i64 n))
def ya (isMax : Bool) : List A → (A → Prop) → Prop
 | [.d (.int k x), .d (.int _ y)], K => EqE (if isMax then (if y > x then y else x) else (if y < x then y else x)) fun z => K (.d (.int k z))
 | _, _ => False
def lv (x : A) (i : Nat) (K : A → Prop) : Prop :=
 match x with
 | .d (.tup l) => ao l i fun x => K (.d x)
 | .tup l => ao l i K
 | _ => False
def wg (c a b : A) (K : A → Prop) : Prop :=
 match c with
 | .d (.bool t) => Br t (K a) (K b)
 | _ => False
def ez (T : Tab) (ev : Operand → A) (hp : Nat → Option (Bool × List A)) (op : Op) (K : A → Prop) : Prop :=
 match op with
 | .move x | .assign x => K (ev x)
 | .pick c a b => wg (ev c) (ev a) (ev b) K
 | .build t parts => qs T t (parts.toList.map fun p => (p.1, ev p.2)) K
 | .load t a => mq T hp t (ev a) K
 | .nilCheck x => match ev x with
  | .ptr b o => K (.ptr b o)
  | .tptr b t n => K (.tptr b t n)
  | .elem c => K (.elem c)
  | _ => False
 | .binOp op xT x y _ => aap T op xT (ev x) (ev y) K
 | .unOp op _ x => ait op (ev x) K
 | .convert s d x => nq T hp s d (ev x) K
 | .slice t x lo hi mx => k8 T hp t (ev x) (lo.map ev) (hi.map ev) (mx.map ev) K
 | .fieldAddr s x f => ky T s (ev x) f K
 | .field s x f => ub T s (ev x) f K
 | .indexAddr t x i => jm T t (ev x) (ev i) K
 | .index t x i => q3 T t (ev x) (ev i) K
 | .extract x i => lv (ev x) i K
 | .call c => match c.callee with
  | .builtin .len => match c.argTypes.toList, c.args.toList with
   | [t], [x] => abb T t (ev x) K
   | _, _ => False
  | .builtin .max => ya true (c.args.toList.map ev) K
  | .builtin .min => ya false (c.args.toList.map ev) K
  | _ => False
 | .makeFunc (.func f) first caps => match first.toList with
  | [] => K (.fn f (caps.toList.map ev))
  | _ => False
 | _ => False
end Go.Ev

namespace Go.Ev
open Go
def Rd (β : Own) (S : Imm) (w : World) (k : Nat) (l : List A) : Prop :=
 ∃ (C : Array Value) (T : TypeId), w.heap[k]? = some (.cells C T (0, 0)) ∧ l.length ≤ C.size ∧ ∀ (j : Nat) (x : A), l[j]? = some x → ∃ u, C[j]? = some u ∧ AR β S w x u
def rm (β : Own) (S : Imm) (w : World) (hp : Nat → Option (Bool × List A)) : Prop :=
 ∀ b k fr l, β b = some (some k) → hp b = some (fr, l) → Rd β S w k l
def j9 (P : Program) (β : Own) (S : Imm) (w : World) (s : Sem Value) (K : A → Prop) : Prop :=
 ∃ r v, K r ∧ AR β S w r v ∧ s.run P w = .ok v w
section
variable {β : Own} {S : Imm} {w : World}
theorem AR.bool (b : Bool) : AR β S w (.d (.bool b)) (.bool b) := by simp only [AR, DR]
theorem AR.int (k : IntKind) (n : Int) : AR β S w (.d (.int k n)) (.int k n) := by simp only [AR, DR]
theorem AR.str (s : ByteArray) : AR β S w (.d (.str s)) (.string s) := by simp only [AR, DR]
end
section
variable {P : Program} {w : World} {t : TypeId}
theorem run_equal_bool (hu : P.underlying t = some .bool) (p q : Bool) : (Op.equal t (.bool p) (.bool q)).run P w = .ok (p == q) w := by
 have h : ∀ d, (Op.equalIn (d + 1) t (.bool p) (.bool q)).run P w = .ok (p == q) w := fun d => by
  simp [Op.equalIn, run_underlying hu]
 exact h 9999
theorem ji {e : Nat} (hu : P.underlying t = some (.slice e)) (a : Option Addr) (n c : Nat) : (Op.equal t (.slice a n c) (.slice none 0 0)).run P w = .ok a.isNone w := by
 have h : ∀ d, (Op.equalIn (d + 1) t (.slice a n c) (.slice none 0 0)).run P w = .ok a.isNone w := fun d => by
  cases a <;> simp [Op.equalIn, run_underlying hu]
 exact h 9999
theorem uv (p q : Bool) : binOp .eql t (.bool p) (.bool q) = (do pure (.bool (← Op.equal t (.bool p) (.bool q)))) := rfl
theorem uw (p q : Bool) : binOp .neq t (.bool p) (.bool q) = (do pure (.bool (!(← Op.equal t (.bool p) (.bool q))))) := rfl
theorem mz (a : Option Addr) (n c : Nat) : binOp .eql t (.slice a n c) (.slice none 0 0) = (do pure (.bool (← Op.equal t (.slice a n c) (.slice none 0 0)))) := rfl
theorem na (a : Option Addr) (n c : Nat) : binOp .neq t (.slice a n c) (.slice none 0 0) = (do pure (.bool (!(← Op.equal t (.slice a n c) (.slice none 0 0))))) := rfl
end
section
variable {P : Program} {T : Tab} {β : Own} {S : Imm} {w : World} {K : A → Prop}
theorem aaq (hT : bw P T) {op : BinOp} {xT : Nat} {a b : A} {x y : Operand} {u v : Value} (h : aap T op xT a b K) (hx : AR β S w a u) (hy : AR β S w b v) :
  j9 P β S w (do eqGuard op xT x y u v; binOp op xT u v) K := by
 unfold aap at h
 split at h
 ·rename_i k p k' q
  simp only [AR, DR] at hx hy
  subst hx hy
  have hg : ∀ op, (eqGuard op xT x y (.int k p) (.int k' q)).run P w = .ok () w := by
   intro op; unfold eqGuard; cases op <;> simp
  split at h
  ·obtain ⟨h1, _, rfl, h⟩ := h
   exact ⟨_, _, h, AR.int _ _, by simp [hg, binOp, Op.shift, show ¬ q < 0 by omega]⟩
  ·obtain ⟨h1, _, rfl, h⟩ := h
   exact ⟨_, _, h, AR.int _ _, by simp [hg, binOp, Op.shift, show ¬ q < 0 by omega]⟩
  ·obtain ⟨rfl, h⟩ := h
   unfold acz at h
   split at h
   all_goals first
    | (obtain ⟨_, rfl, h⟩ := h; exact ⟨_, _, h, AR.int _ _, by simp [hg, binOp, Op.intArith, Op.intBits]⟩)
    | exact ⟨_, _, h, AR.bool _, by simp [hg, binOp, Op.intCmp] <;> rfl⟩
    | (obtain ⟨h1, _, rfl, h⟩ := h; exact ⟨_, _, h, AR.int _ _, by simp [hg, binOp, Op.intDiv, h1]⟩)
    | exact h.elim
 ·rename_i p q
  simp only [AR, DR] at hx hy
  subst hx hy
  obtain ⟨ht, h⟩ := h
  simp only [Option.any_eq_true, decide_eq_true_eq] at ht
  obtain ⟨yt, hyt, hk⟩ := ht
  have hu := ad5 hT hyt hk
  have hg : ∀ op, (eqGuard op xT x y (.bool p) (.bool q)).run P w = .ok () w := by
   intro op; unfold eqGuard; cases op <;> simp
  split at h
  ·exact ⟨_, _, h, AR.bool _, by simp [hg, uv, run_equal_bool hu]⟩
  ·exact ⟨_, _, h, AR.bool _, by simp [hg, uw, run_equal_bool hu]⟩
  ·exact h.elim
 ·rename_i p q
  simp only [AR, DR] at hx hy
  subst hx hy
  have hg : ∀ op, (eqGuard op xT x y (.string p) (.string q)).run P w = .ok () w := by
   intro op; unfold eqGuard; cases op <;> simp
  split at h
  ·obtain ⟨hsz, _, rfl, h⟩ := h
   refine ⟨_, _, h, AR.str _, ?_⟩
   have : ¬ ((p.size + q.size : Nat) : Int) > IntKind.i64.max := by
    have : IntKind.i64.max = 9223372036854775807 := by decide
    rw [this]; omega
   simp only [Sem.run_bind, hg, Result.andThen_ok, binOp, Op.stringOp, if_neg this]
   rfl
  all_goals first
   | exact ⟨_, _, h, AR.bool _, by simp [hg, binOp, Op.stringOp]⟩
   | (obtain ⟨_, rfl, h⟩ := h; exact ⟨_, _, h, AR.bool _, by simp [hg, binOp, Op.stringOp]⟩)
   | exact h.elim
 ·rename_i n cells
  obtain ⟨ht, h⟩ := h
  simp only [AR, DR] at hx hy
  subst hy
  obtain ⟨a', c, rfl, hc, hl⟩ := hx
  simp only [Option.any_eq_true] at ht
  obtain ⟨yt, hyt, hk⟩ := ht
  have hu : ∃ e, P.underlying xT = some (.slice e) := by
   unfold Ty.alr at hk
   split at hk
   ·rename_i e he; exact ⟨e, oq hT hyt he⟩
   ·simp at hk
  obtain ⟨e, hu⟩ := hu
  have hg : ∀ op, (eqGuard op xT x y (.slice a' n c) (.slice none 0 0)).run P w = .ok () w := by
   intro op; unfold eqGuard; cases op <;> simp
  have hn : cells ≠ [] → a' ≠ none := by
   intro hn e0
   subst e0
   rcases hl with rfl | ⟨_, _, h', _⟩
   ·exact hn rfl
   ·cases h'
  split at h
  ·cases a' with
   | none => exact ⟨_, _, h.1 (Classical.byContradiction fun c => hn c rfl), AR.bool _, by simp [hg, mz, ji hu]⟩
   | some a' => exact ⟨_, _, h.2, AR.bool _, by simp [hg, mz, ji hu]⟩
  ·cases a' with
   | none => exact ⟨_, _, h.1 (Classical.byContradiction fun c => hn c rfl), AR.bool _, by simp [hg, na, ji hu]⟩
   | some a' => exact ⟨_, _, h.2, AR.bool _, by simp [hg, na, ji hu]⟩
  ·exact h.elim
 ·exact h.elim
theorem ad4 {op : UnOp} {a : A} {u : Value} (h : ait op a K) (hx : AR β S w a u) : j9 P β S w (Op.unary op u) K := by
 unfold ait at h
 split at h
 all_goals first
  | (simp only [AR, DR] at hx; subst hx; obtain ⟨_, rfl, h⟩ := h; exact ⟨_, _, h, AR.int _ _, by simp [Op.unary, Op.intArith, Op.intBits]⟩)
  | (simp only [AR, DR] at hx; subst hx; exact ⟨_, _, h, AR.bool _, by simp [Op.unary]⟩)
  | exact h.elim
theorem cf (hT : bw P T) {t : Nat} {K : Nat → Ty → Prop} (h : bh T t K) : ∃ e ye, P.underlying t = some (.slice e) ∧ T e = some ye ∧ K e ye := by
 unfold bh at h
 split at h
 ·rename_i y hy
  split at h
  ·rename_i e he
   split at h
   ·rename_i ye hye
    exact ⟨e, ye, oq hT hy he, hye, h⟩
   ·exact h.elim
  ·exact h.elim
 ·exact h.elim
theorem ix (hT : bw P T) {t : Nat} {K : Nat → Nat → Ty → Prop} (h : fo T t K) : ∃ n e ye, P.underlying t = some (.array n e) ∧ T e = some ye ∧ K n e ye := by
 unfold fo at h
 split at h
 ·rename_i y hy
  split at h
  ·rename_i n e he
   split at h
   ·rename_i ye hye
    exact ⟨n, e, ye, tn hT hy he, hye, h⟩
   ·exact h.elim
  ·exact h.elim
 ·exact h.elim
theorem pt (hT : bw P T) {t : Nat} {K : List (Nat × Nat × Bool) → Prop} (h : iy T t K) : ∃ l fs, P.underlying t = some (.struct fs) ∧ K l ∧
  ∀ {f o s : Nat} {g : Bool}, l[f]? = some (o, s, g) → ∃ F, fs[f]? = some F ∧ F.offset = o ∧ s ≠ 0 ∧ ∃ i d, P.info? F.type = some i ∧ P.underlying F.type = some d ∧ i.size = s ∧ gn d = g := by
 unfold iy at h
 split at h
 ·rename_i y hy
  split at h
  ·rename_i l hl
   obtain ⟨fs, h1, h2⟩ := aaf hT hy hl
   exact ⟨l, fs, h1, h, h2⟩
  ·exact h.elim
 ·exact h.elim
theorem run_loadCellsFrom {a : Addr} : ∀ (n i : Nat) (acc : Array Value) (f : Nat → Value), (∀ j, j < n → w.cell? (a.add (i + j)) = some (f j)) →
  (loadCellsFrom a i n acc).run P w = .ok (acc ++ ((List.range n).map f).toArray) w
 | 0, i, acc, f, _ => by simp [loadCellsFrom]
 | n + 1, i, acc, f, h => by
  have h0 := h 0 (by omega)
  have ih := run_loadCellsFrom n (i + 1) (acc.push (f 0)) (fun j => f (j + 1)) (fun j hj => by
   have := h (j + 1) (by omega)
   rwa [show i + (j + 1) = i + 1 + j by omega] at this)
  simp only [Nat.add_zero] at h0
  simp only [loadCellsFrom, Sem.run_bind, run_load, h0, Result.andThen_ok]
  rw [ih]
  congr 1
  rw [List.range_succ_eq_map]
  simp [Function.comp_def]
theorem dh (k o n : Nat) : (⟨k, o, none⟩ : Addr).add n = ⟨k, o + n, none⟩ := by
 unfold Addr.add
 split
 ·subst_vars; simp
 ·simp
theorem cp {k : Nat} {C : Array Value} {T : TypeId} {fr : Nat × Nat} (h : w.heap[k]? = some (.cells C T fr)) (o : Nat) : w.cell? ⟨k, o, none⟩ = C[o]? := by
 simp [World.cell?, h]
theorem ft {α : Type} {l : List α} {o s j : Nat} {x : α} (h : ((l.drop o).take s)[j]? = some x) : l[o + j]? = some x ∧ j < s := by
 rw [List.getElem?_take] at h
 split at h
 ·rename_i hj
  exact ⟨by simpa using h, hj⟩
 ·simp at h
theorem q6 (hT : bw P T) {hp : Nat → Option (Bool × List A)} (hh : rm β S w hp) {t : Nat} {a : A} {u : Value} (h : mq T hp t a K) (hx : AR β S w a u) :
  j9 P β S w (Instr.loadAt t u) K := by
 unfold mq at h
 split at h
 ·rename_i y hy
  have hagg := adw hT hy w
  have hsz := b7 hT hy w
  split at h
  ·rename_i b o
   simp only [AR] at hx
   obtain ⟨k, hk, rfl⟩ := hx
   split at h
   ·rename_i fr l hl
    obtain ⟨C, Tc, hC, hlen, hcells⟩ := hh b k _ _ hk hl
    split at h
    ·rename_i hg
     obtain ⟨xs, rfl, hxl, hK⟩ := h
     have hle : o + y.size ≤ l.length ∨ y.size = 0 := by
      simp at hxl; omega
     have hrun : (loadCells ⟨k, o, none⟩ y.size).run P w = .ok (((List.range y.size).map fun j => C.getD (o + j) undef).toArray) w := by
      have := run_loadCellsFrom (P := P) (w := w) (a := ⟨k, o, none⟩) y.size 0 #[] (fun j => C.getD (o + j) undef) (fun j hj => by
       rw [dh, cp hC]
       have : o + (0 + j) < C.size := by omega
       simp [show o + j < C.size by omega])
      simpa [loadCells] using this
     refine ⟨_, _, hK, qk (vs := ((List.range y.size).map fun j => C.getD (o + j) undef).toArray) ?_, ?_⟩
     ·refine pw (by simp only [hxl]; simp) fun j x u' hj hu => ?_
      obtain ⟨hj', hjs⟩ := ft hj
      obtain ⟨v', hv', hR⟩ := hcells _ _ hj'
      simp only [List.getElem?_map, List.getElem?_range hjs, Option.map_some, Option.some.injEq] at hu
      rw [← hu]
      simpa [Array.getD_eq_getD_getElem?, hv'] using hR
     ·simp only [Instr.loadAt, Instr.sureAddr, loadVar, pure_bind, Sem.run_bind, hagg, hg, Result.andThen_ok, if_true, hsz, hrun, Sem.run_pure]
    ·rename_i hg
     obtain ⟨x, hx, hK⟩ := h
     obtain ⟨v', hv', hR⟩ := hcells _ _ hx
     refine ⟨_, _, hK, hR, ?_⟩
     simp [Instr.loadAt, Instr.sureAddr, loadVar, hagg, hg, cp hC, hv']
   ·exact h.elim
  ·rename_i cells
   simp only [AR] at hx
   obtain ⟨k, o, rfl, hl⟩ := hx
   split at h
   ·rename_i hg
    obtain ⟨xs, rfl, hxl, hK⟩ := h
    have hle : y.size ≤ cells.length ∨ y.size = 0 := by
     simp at hxl; omega
    have hf : ∀ j, j < y.size → ∃ u x, cells[j]? = some x ∧ w.cell? ⟨k, o + j, none⟩ = some u ∧ DR S w x u := by
     intro j hj
     obtain ⟨x, hx⟩ : ∃ x, cells[j]? = some x := ⟨cells[j]'(by omega), by simp⟩
     obtain ⟨_, u, h1, h2⟩ := ju hl hx
     exact ⟨u, x, hx, h1, h2⟩
    have hrun : (loadCells ⟨k, o, none⟩ y.size).run P w = .ok (((List.range y.size).map fun j => (w.cell? ⟨k, o + j, none⟩).getD undef).toArray) w := by
     have := run_loadCellsFrom (P := P) (w := w) (a := ⟨k, o, none⟩) y.size 0 #[] (fun j => (w.cell? ⟨k, o + j, none⟩).getD undef) (fun j hj => by
      obtain ⟨u, x, h1, h2, h3⟩ := hf j hj
      rw [dh]
      simp [h2])
     simpa [loadCells] using this
    refine ⟨_, .agg ((List.range y.size).map fun j => (w.cell? ⟨k, o + j, none⟩).getD undef).toArray, hK, ?_, ?_⟩
    ·simp only [AR, DR]
     refine ⟨_, rfl, jq (by simp only [hxl]; simp) fun j x u' hj hu => ?_⟩
     rw [List.drop_zero, List.getElem?_take] at hj
     split at hj
     ·rename_i hjs
      obtain ⟨u, x', h1, h2, h3⟩ := hf j hjs
      rw [h1] at hj; cases hj
      simp only [List.getElem?_map, List.getElem?_range hjs, Option.map_some, Option.some.injEq, h2, Option.getD_some] at hu
      rwa [← hu]
     ·simp at hj
    ·simp only [Instr.loadAt, Instr.sureAddr, loadVar, pure_bind, Sem.run_bind, hagg, hg, Result.andThen_ok, if_true, hsz, hrun, Sem.run_pure]
   ·rename_i hg
    obtain ⟨x, hx, hK⟩ := h
    obtain ⟨_, u, h1, h2⟩ := ju hl hx
    refine ⟨_, u, hK, by simp only [AR]; exact h2, ?_⟩
    simp only [Nat.add_zero] at h1
    simp [Instr.loadAt, Instr.sureAddr, loadVar, hagg, hg, h1]
  ·exact h.elim
 ·exact h.elim
theorem ri {t : Nat} {i : TypeInfo} {d : TypeDesc} (hi : P.info? t = some i) (hd : P.underlying t = some d) (cs : Array Value) (off : Nat) :
  (part t cs off).run P w = if gn d then .ok (.agg (cs.extract off (off + i.size))) w else match cs[off]? with | some v => .ok v w | none => .halt (.stuck "part: no such cell") w := by
 have h1 : (isAgg t).run P w = .ok (gn d) w := by
  simp only [isAgg, Sem.run_bind, run_underlying hd, Result.andThen_ok]
  unfold gn; split <;> simp
 have h2 : (sizeOf t).run P w = .ok i.size w := by simp [sizeOf, typeInfo, hi]
 simp only [part, Sem.run_bind, h1, Result.andThen_ok]
 cases gn d
 ·simp only [Bool.false_eq_true, if_false]; cases cs[off]? <;> simp
 ·simp [h2]
theorem ra {t : Nat} {i : TypeInfo} {d : TypeDesc} (hi : P.info? t = some i) (hd : P.underlying t = some d) {g : Bool} {o s : Nat} (hg : gn d = g) (hs : i.size = s)
  {x : A} {u : Value} (h : qf g o s x K) (hx : AR β S w x u) : j9 P β S w (do part t (← asAgg u) o) K := by
 unfold qf at h
 split at h
 ·rename_i l
  simp only [AR, DR] at hx
  obtain ⟨vs, rfl, hl⟩ := hx
  have hlen := c8 hl
  split at h
  ·obtain ⟨xs, rfl, hxl, hK⟩ := h
   refine ⟨_, .agg (vs.extract o (o + s)), hK, ?_, by simp [asAgg, ri hi hd, hg, hs]⟩
   simp only [AR, DR]
   refine ⟨_, rfl, jq (by simp at hlen hxl ⊢; omega) fun j x u' hj hu => ?_⟩
   obtain ⟨hj', hjs⟩ := ft hj
   obtain ⟨v', hv', hR⟩ := fw hl hj'
   rw [Array.toList_extract] at hu
   have : vs.toList[o + j]? = some u' := by
    have := hu
    simp only [List.extract_eq_take_drop, show o + s - o = s by omega] at this
    exact (ft this).1
   rw [hv'] at this; cases this
   exact hR
  ·obtain ⟨x, hx, hK⟩ := h
   obtain ⟨v', hv', hR⟩ := fw hl hx
   refine ⟨_, v', hK, by simp only [AR]; exact hR, ?_⟩
   have : vs[o]? = some v' := by simpa using hv'
   simp [asAgg, ri hi hd, hg, this]
 ·rename_i l
  simp only [AR] at hx
  obtain ⟨vs, rfl, hl⟩ := hx
  have hlen := c7 hl
  split at h
  ·obtain ⟨xs, rfl, hxl, hK⟩ := h
   refine ⟨_, .agg (vs.extract o (o + s)), hK, qk ?_, by simp [asAgg, ri hi hd, hg, hs]⟩
   refine pw (by simp at hlen hxl ⊢; omega) fun j x u' hj hu => ?_
   obtain ⟨hj', hjs⟩ := ft hj
   obtain ⟨v', hv', hR⟩ := gm hl hj'
   rw [Array.toList_extract] at hu
   have : vs.toList[o + j]? = some u' := by
    have := hu
    simp only [List.extract_eq_take_drop, show o + s - o = s by omega] at this
    exact (ft this).1
   rw [hv'] at this; cases this
   exact hR
  ·obtain ⟨x, hx, hK⟩ := h
   obtain ⟨v', hv', hR⟩ := gm hl hx
   refine ⟨_, v', hK, hR, ?_⟩
   have : vs[o]? = some v' := by simpa using hv'
   simp [asAgg, ri hi hd, hg, this]
 ·exact h.elim
theorem xf (hT : bw P T) {s f : Nat} {x : A} {u : Value} (h : ub T s x f K) (hx : AR β S w x u) : j9 P β S w (Instr.field s u f) K := by
 obtain ⟨l, fs, hu, hk, hf⟩ := pt hT h
 split at hk
 ·rename_i off sz g hl
  obtain ⟨F, h1, h2, h3, i, d, hi, hd, hs, hg⟩ := hf hl
  obtain ⟨r, v, hK, hR, hrun⟩ := ra hi hd hg hs hk hx
  refine ⟨r, v, hK, hR, ?_⟩
  simp only [Instr.field, Sem.run_bind, run_underlying hu, Result.andThen_ok, h1, h2]
  simpa using hrun
 ·exact hk.elim
theorem qz (hT : bw P T) {s f : Nat} {x : A} {u : Value} (h : ky T s x f K) (hx : AR β S w x u) : j9 P β S w (Instr.fieldAt s u f) K := by
 obtain ⟨l, fs, hu, hk, hf⟩ := pt hT h
 split at hk
 ·rename_i off sz g hl
  obtain ⟨F, h1, h2, h3, i, d, hi, hd, hs, hg⟩ := hf hl
  have hsz : (sizeOf F.type).run P w = .ok sz w := by simp [sizeOf, typeInfo, hi, hs]
  have hrun : ∀ a : Addr, (Instr.fieldAt s (.pointer (some a)) f).run P w = .ok (.pointer (some (a.add off))) w := by
   intro a
   simp [Instr.fieldAt, run_underlying hu, h1, Instr.sureAddr, fieldPlace, hsz, h3, h2]
  split at hk
  ·rename_i b o
   simp only [AR] at hx
   obtain ⟨k, hk', rfl⟩ := hx
   exact ⟨_, _, hk, by simp only [AR]; exact ⟨k, hk', rfl⟩, by rw [hrun, dh]⟩
  ·rename_i b t n
   simp only [AR] at hx
   obtain ⟨k, hk', rfl, _⟩ := hx
   exact ⟨_, _, hk, by simp only [AR]; exact ⟨k, hk', rfl⟩, by rw [hrun, dh, Nat.zero_add]⟩
  ·rename_i cells
   simp only [AR] at hx
   obtain ⟨k, o, rfl, hl⟩ := hx
   exact ⟨_, _, hk, by simp only [AR]; exact ⟨k, o + off, rfl, lq hl off⟩, by rw [hrun, dh]⟩
  ·exact hk.elim
 ·exact hk.elim
theorem ko {t n e : Nat} {ye : Ty} (hT : bw P T) (hu : P.underlying t = some (.array n e)) (hye : T e = some ye) (a : Addr) (k : IntKind) {i : Int} (hi : 0 ≤ i ∧ i < n) :
  (Instr.indexAt t (.pointer (some a)) (.int k i)).run P w = .ok (.pointer (some (a.add (i.toNat * ye.size)))) w := by
 simp [Instr.indexAt, run_underlying hu, asIntOf, Instr.sureAddr, hi, b7 hT hye]
theorem kp {t e : Nat} {ye : Ty} (hT : bw P T) (hu : P.underlying t = some (.slice e)) (hye : T e = some ye) (a : Addr) (n c : Nat) (k : IntKind) {i : Int} (hi : 0 ≤ i ∧ i < n) :
  (Instr.indexAt t (.slice (some a) n c) (.int k i)).run P w = .ok (.pointer (some (a.add (i.toNat * ye.size)))) w := by
 simp [Instr.indexAt, run_underlying hu, asIntOf, Instr.sureAddr, hi, b7 hT hye]
theorem q2 (hT : bw P T) {t : Nat} {x i : A} {u v : Value} (h : jm T t x i K) (hx : AR β S w x u) (hi : AR β S w i v) : j9 P β S w (Instr.indexAt t u v) K := by
 unfold jm at h
 split at h
 ·rename_i ki i
  simp only [AR, DR] at hi
  subst hi
  split at h
  ·rename_i n cells
   obtain ⟨e, ye, hu, hye, ⟨h1, h2⟩, h3⟩ := cf hT h
   simp only [AR, DR] at hx
   obtain ⟨a, c, rfl, hc, hl⟩ := hx
   rcases hl with rfl | ⟨b, o, rfl, hl⟩
   ·simp at h2
   ·exact ⟨_, _, h3, by simp only [AR]; exact ⟨b, _, rfl, lq hl _⟩, by rw [kp hT hu hye _ _ _ _ h1, dh]⟩
  ·rename_i b o n sz
   obtain ⟨e, ye, hu, hye, hsz, h1, h3⟩ := cf hT h
   simp only [AR] at hx
   rcases hx with ⟨k, hk, c, C, Tc, fr, rfl, hc, hC, hl⟩ | ⟨rfl, _⟩
   ·exact ⟨_, _, h3, by simp only [AR]; exact ⟨k, hk, rfl⟩, by rw [kp hT hu hye _ _ _ _ h1, dh]⟩
   ·omega
  ·rename_i b o
   obtain ⟨n, e, ye, hu, hye, h1, h3⟩ := ix hT h
   simp only [AR] at hx
   obtain ⟨k, hk, rfl⟩ := hx
   exact ⟨_, _, h3, by simp only [AR]; exact ⟨k, hk, rfl⟩, by rw [ko hT hu hye _ _ h1, dh]⟩
  ·rename_i cells
   obtain ⟨n, e, ye, hu, hye, h1, h3⟩ := ix hT h
   simp only [AR] at hx
   obtain ⟨k, o, rfl, hl⟩ := hx
   exact ⟨_, _, h3, by simp only [AR]; exact ⟨k, _, rfl, lq hl _⟩, by rw [ko hT hu hye _ _ h1, dh]⟩
  ·exact h.elim
 ·exact h.elim
theorem xg (hT : bw P T) {t : Nat} {x i : A} {u v : Value} (h : q3 T t x i K) (hx : AR β S w x u) (hi : AR β S w i v) : j9 P β S w (Instr.index t u v) K := by
 unfold q3 at h
 split at h
 ·rename_i ki i
  simp only [AR, DR] at hi
  subst hi
  split at h
  ·rename_i s
   obtain ⟨ht, h1, z, rfl, h2⟩ := h
   simp only [AR, DR] at hx
   subst hx
   simp only [Option.any_eq_true, decide_eq_true_eq] at ht
   obtain ⟨yt, hyt, hk⟩ := ht
   have hu := ia hT hyt hk
   refine ⟨_, _, h2, AR.int _ _, ?_⟩
   have hlt : i.toNat < s.data.toList.length := by
    have : s.data.toList.length = s.size := by simp
    omega
   have hg := aer (d := (0 : UInt8)) hlt
   have hs : s[i.toNat]? = some (nth 0 s.data.toList i.toNat) := by
    have h3 : i.toNat < s.size := by simpa using hlt
    rw [getElem?_pos s i.toNat h3]
    have h4 : s.data.toList[i.toNat]? = some s[i.toNat] := by
     rw [List.getElem?_eq_getElem hlt]; rfl
    rw [h4] at hg
    exact hg
   simp [Instr.index, asIntOf, run_underlying hu, h1.1, hs]
  ·rename_i x hxs
   obtain ⟨n, e, ye, hu, hye, h1, h3⟩ := ix hT h
   obtain ⟨ie, de, hie, hde, hs, _, hag, _⟩ := Ty.info hT hye
   obtain ⟨r, v', hK, hR, hrun⟩ := ra hie hde hag hs h3 hx
   refine ⟨r, v', hK, hR, ?_⟩
   have hcs : ∃ cs, u = .agg cs := by
    unfold qf at h3
    split at h3
    ·simp only [AR, DR] at hx; obtain ⟨vs, rfl, _⟩ := hx; exact ⟨_, rfl⟩
    ·simp only [AR] at hx; obtain ⟨vs, rfl, _⟩ := hx; exact ⟨_, rfl⟩
    ·exact h3.elim
   obtain ⟨cs, rfl⟩ := hcs
   simp only [asAgg, pure_bind] at hrun
   simp [Instr.index, asIntOf, run_underlying hu, h1, b7 hT hye, hrun]
 ·exact h.elim
theorem og {src dst e : Nat} (hs : P.underlying src = some (.slice e)) (he : P.underlying e = some (.int .u8)) (hd : P.underlying dst = some .string) (k o n c : Nat) (bs : List UInt8) (hl : bs.length = n)
  (hc : ∀ (j : Nat) (x : UInt8), bs[j]? = some x → w.cell? ⟨k, o + j, none⟩ = some (.int .u8 (x.toNat : Int))) :
  (convert src dst (.slice (some ⟨k, o, none⟩) n c)).run P w = .ok (.string ⟨bs.toArray⟩) w := by
 have h := Go.run_convert_bytes_arg (P := P) w src e hs he k o n c (bs.map fun x => (x.toNat : Int)) (by simpa using hl) (fun i hi => by
  have hi' : i < bs.length := by omega
  rw [hc i bs[i] (List.getElem?_eq_getElem hi'), List.getD_eq_getElem?_getD, List.getElem?_map, List.getElem?_eq_getElem hi']; rfl) dst hd
 rw [h]
 congr 2
 apply ByteArray.ext
 apply Array.toList_inj.1
 rw [Go.strOfNums_data, List.map_map]
 show _ = bs
 conv => rhs; rw [← List.map_id bs]
 apply List.map_congr_left
 intro x _
 simp
theorem oh {src dst e : Nat} (hs : P.underlying src = some (.slice e)) (he : P.underlying e = some (.int .u8)) (hd : P.underlying dst = some .string) (a : Addr) (c : Nat) :
  (convert src dst (.slice (some a) 0 c)).run P w = .ok (.string ByteArray.empty) w := by
 rw [Go.run_convert_bytes_string w src dst e (some a) 0 c hs he hd]
 simp [Conv.bytesToString, loadCells, loadCellsFrom]
theorem p0 (hT : bw P T) {s d : Nat} (h : aav T s d = true) : ∃ e, P.underlying s = some (.slice e) ∧ P.underlying e = some (.int .u8) ∧ P.underlying d = some .string := by
 unfold aav at h
 rw [Bool.and_eq_true] at h
 obtain ⟨h1, h2⟩ := h
 simp only [Option.any_eq_true, decide_eq_true_eq] at h2
 obtain ⟨y2, hy2, hk2⟩ := h2
 split at h1
 ·rename_i y hy
  split at h1
  ·rename_i e he
   simp only [Option.any_eq_true, decide_eq_true_eq] at h1
   obtain ⟨ye, hye, hke⟩ := h1
   refine ⟨e, ?_, yr hT hye hke, ia hT hy2 hk2⟩
   have hsl : bh T s fun e' _ => e' = e := by unfold bh; rw [hy]; dsimp only; rw [he]; dsimp only; rw [hye]
   obtain ⟨e', _, hu, _, rfl⟩ := cf hT hsl
   exact hu
  ·cases h1
 ·cases h1
theorem za (hT : bw P T) {hp : Nat → Option (Bool × List A)} (hh : rm β S w hp) {s d : Nat} {x : A} {u : Value} (h : nq T hp s d x K) (hx : AR β S w x u) : j9 P β S w (convert s d u) K := by
 unfold nq at h
 split at h
 ·rename_i k n
  obtain ⟨hs, h⟩ := h
  simp only [AR, DR] at hx
  subst hx
  obtain ⟨ys, hys⟩ := Option.isSome_iff_exists.mp hs
  obtain ⟨is, ds, _, hds, _⟩ := Ty.info hT hys
  split at h
  ·rename_i y hy
   split at h
   ·rename_i k' hk
    obtain ⟨_, rfl, h⟩ := h
    exact ⟨_, _, h, AR.int _ _, by simp [convert, run_underlying hds, run_underlying (yr hT hy hk), Conv.intToInt]⟩
   ·rename_i hk
    obtain ⟨_, rfl, h⟩ := h
    exact ⟨_, _, h, AR.str _, Go.run_convert_int_string w s d k n (by rw [hds]; rfl) (ia hT hy hk)⟩
   ·exact h.elim
  ·exact h.elim
 ·rename_i s'
  obtain ⟨h1, h2, h3⟩ := h
  simp only [AR, DR] at hx
  subst hx
  simp only [Option.any_eq_true, decide_eq_true_eq] at h1 h2
  obtain ⟨y1, hy1, hk1⟩ := h1
  obtain ⟨y2, hy2, hk2⟩ := h2
  exact ⟨_, _, h3, AR.str _, by simp [convert, run_underlying (ia hT hy1 hk1), run_underlying (ia hT hy2 hk2)]⟩
 ·obtain ⟨ht, h⟩ := h
  obtain ⟨e, e1, e2, e3⟩ := p0 hT ht
  simp only [AR, DR] at hx
  subst hx
  exact ⟨_, _, h, AR.str _, Go.run_convert_bytes_nil w s e e1 e2 0 0 d e3⟩
 ·rename_i n l
  obtain ⟨ht, hl, bs, hb, h⟩ := h
  obtain ⟨e, e1, e2, e3⟩ := p0 hT ht
  simp only [AR, DR] at hx
  obtain ⟨a, c, rfl, hc, hcells⟩ := hx
  have hbl : bs.length = n := by rw [← hl, hb, List.length_map]
  refine ⟨_, _, h, AR.str _, ?_⟩
  rcases hcells with h0 | ⟨k, o, rfl, hL⟩
  ·subst h0
   have : bs = [] := by cases bs with | nil => rfl | cons x bs => cases hb
   subst this
   have n0 : n = 0 := by simpa using hbl.symm
   subst n0
   cases a with
   | none => exact Go.run_convert_bytes_nil w s e e1 e2 0 c d e3
   | some a => exact oh e1 e2 e3 a c
  ·refine og e1 e2 e3 k o n c bs hbl fun j x hj => ?_
   obtain ⟨_, u', hu, hR⟩ := ju hL (j := j) (x := .int .u8 (x.toNat : Int)) (by rw [hb, List.getElem?_map, hj]; rfl)
   simp only [DR] at hR
   rw [hu, hR]
 ·rename_i b o n sz
  split at h
  ·rename_i fr l hl
   obtain ⟨ht, ds, rfl, ⟨rfl, hle⟩, bs, hb, h⟩ := h
   obtain ⟨e, e1, e2, e3⟩ := p0 hT ht
   rw [List.length_map] at hle
   have hbl : bs.length = n := by
    have := congrArg List.length hb
    rw [List.length_map, List.length_take, List.length_drop] at this
    omega
   simp only [AR] at hx
   refine ⟨_, _, h, AR.str _, ?_⟩
   rcases hx with ⟨k, hk, c, C, Tc, fr', rfl, hc, hC, hle'⟩ | ⟨rfl, hbn, a', rfl⟩
   ·refine og e1 e2 e3 k o n c bs hbl fun j x hj => ?_
    obtain ⟨C', Tc', hC', hlen, hcells⟩ := hh b k _ _ hk hl
    have g : ds[o + j]? = some (.int .u8 (x.toNat : Int)) := by
     have : ((ds.drop o).take n)[j]? = some (.int .u8 (x.toNat : Int)) := by rw [hb, List.getElem?_map, hj]; rfl
     rw [List.getElem?_take] at this
     split at this
     ·rw [List.getElem?_drop] at this; exact this
     ·cases this
    obtain ⟨u', hu, hR⟩ := hcells (o + j) (.d (.int .u8 (x.toNat : Int))) (by rw [List.getElem?_map, g]; rfl)
    simp only [AR, DR] at hR
    rw [cp hC', hu, hR]
   ·have : bs = [] := List.length_eq_zero_iff.1 hbl
    subst this
    cases a' with
    | none => exact Go.run_convert_bytes_nil w s e e1 e2 0 0 d e3
    | some a' => exact oh e1 e2 e3 a' 0
  ·exact h.elim
 ·exact h.elim
theorem A.uz {x : A} {u : Value} (h : AR β S w x u) (hx : x.full = true) : ARs β S w x.cells u.cells.toList := by
 cases x with
 | tup _ => simp [A.full] at hx
 | d y =>
  cases y with
  | any => simp [A.full] at hx
  | tup _ => simp [A.full] at hx
  | fnd _ _ => simp [A.full] at hx
  | ptrd c =>
   have h0 := h
   simp only [AR, DR] at h
   obtain ⟨k, o, rfl, _⟩ := h
   simp only [A.cells, ARs]
   exact ⟨_, [], rfl, h0, rfl⟩
  | agg l =>
   simp only [AR, DR] at h
   obtain ⟨vs, rfl, h⟩ := h
   exact ab6 h
  | raw v =>
   have h0 := h
   simp only [AR, DR] at h
   subst h
   have : u.cells = #[u] := by cases u <;> first | rfl | simp [A.full, Value.oneCell'] at hx
   rw [this]
   simp only [A.cells, ARs]
   exact ⟨u, [], rfl, h0, rfl⟩
  | slice n l =>
   have h0 := h
   simp only [AR, DR] at h
   obtain ⟨a, c, rfl, _⟩ := h
   simp only [A.cells, ARs]
   exact ⟨_, [], rfl, h0, rfl⟩
  | _ =>
   have h0 := h
   simp only [AR, DR] at h
   subst h
   simp only [A.cells, ARs]
   exact ⟨_, [], rfl, h0, rfl⟩
 | fn f l => simp [A.full] at hx
 | ptr b o =>
  have h0 := h
  simp only [AR] at h
  obtain ⟨k, _, rfl⟩ := h
  simp only [A.cells, ARs]
  exact ⟨_, [], rfl, h0, rfl⟩
 | tptr b t n =>
  have h0 := h
  simp only [AR] at h
  obtain ⟨k, _, rfl, _⟩ := h
  simp only [A.cells, ARs]
  exact ⟨_, [], rfl, h0, rfl⟩
 | town b n e =>
  have h0 := h
  simp only [AR] at h
  obtain ⟨k, _, c, C, fr, rfl, _⟩ := h
  simp only [A.cells, ARs]
  exact ⟨_, [], rfl, h0, rfl⟩
 | elem c =>
  have h0 := h
  simp only [AR] at h
  obtain ⟨k, o, rfl, _⟩ := h
  simp only [A.cells, ARs]
  exact ⟨_, [], rfl, h0, rfl⟩
 | own b o n sz =>
  have h0 := h
  simp only [AR] at h
  have : u.cells = #[u] := by
   rcases h with ⟨k, _, c, C, T, fr, rfl, _⟩ | ⟨_, _, a, rfl⟩ <;> rfl
  rw [this]
  simp only [A.cells, ARs]
  exact ⟨_, [], rfl, h0, rfl⟩
 | agg l =>
  simp only [AR] at h
  obtain ⟨vs, rfl, h⟩ := h
  exact h
theorem getElem?_setAt {α : Type} : ∀ (xs l : List α) (o j : Nat), o + xs.length ≤ l.length → (setAt l o xs)[j]? = if o ≤ j ∧ j < o + xs.length then xs[j - o]? else l[j]?
 | [], l, o, j, _ => by simp only [setAt, List.length_nil]; rw [if_neg (by omega)]
 | x :: xs, l, o, j, h => by
  simp only [List.length_cons] at h
  simp only [setAt]
  rw [getElem?_setAt xs (l.set o x) (o + 1) j (by simp; omega)]
  by_cases h1 : o + 1 ≤ j ∧ j < o + 1 + xs.length
  ·rw [if_pos h1, if_pos (by simp; omega), show j - o = (j - (o + 1)) + 1 by omega]
   simp
  ·rw [if_neg h1, List.getElem?_set]
   by_cases h2 : o = j
   ·subst h2
    simp only [if_true]
    rw [if_pos (by omega), if_pos (by simp)]
    simp
   ·rw [if_neg h2, if_neg (by simp; omega)]
theorem afa {l xs : List A} {vs us : List Value} {o : Nat} (h : ARs β S w l vs) (hx : ARs β S w xs us) (ho : o + xs.length ≤ l.length) : ARs β S w (setAt l o xs) (setAt vs o us) := by
 have e1 := c7 h
 have e2 := c7 hx
 refine pw (by simp [iu, e1]) fun j x u hj hu => ?_
 rw [getElem?_setAt _ _ _ _ ho] at hj
 rw [getElem?_setAt _ _ _ _ (by omega), e2] at hu
 split at hj
 ·rename_i hc
  rw [if_pos hc] at hu
  obtain ⟨u', hu', hR⟩ := gm hx hj
  rw [hu] at hu'; cases hu'; exact hR
 ·rename_i hc
  rw [if_neg hc] at hu
  obtain ⟨u', hu', hR⟩ := gm h hj
  rw [hu] at hu'; cases hu'; exact hR
theorem vm : ∀ (us : List Value) (n off : Nat) (cs : Array Value), ((us.zipIdx n).foldl (fun (cs : Array Value) (c, j) => cs.setIfInBounds (off + j) c) cs).toList = setAt cs.toList (off + n) us
 | [], n, off, cs => by simp [setAt]
 | u :: us, n, off, cs => by
  simp only [List.zipIdx_cons, List.foldl_cons, setAt]
  rw [vm us (n + 1) off]
  simp [Nat.add_assoc]
theorem mb (z : List ZK) : ARs β S w (k9 z) (z.map ZK.val) :=
 pw (by simp [k9]) fun j x u hj hu => by
  simp only [k9, List.getElem?_map, Option.map_eq_some_iff] at hj hu
  obtain ⟨a, ha, rfl⟩ := hj
  obtain ⟨b, hb, rfl⟩ := hu
  rw [ha] at hb; cases hb
  simp only [AR]; exact ZK.akk a
inductive ka (β : Own) (S : Imm) (w : World) : List (Nat × A) → List (Nat × Value) → Prop
 | nil : ka β S w [] []
 | cons {i : Nat} {x : A} {v : Value} {l : List (Nat × A)} {l' : List (Nat × Value)} (h : AR β S w x v) (t : ka β S w l l') : ka β S w ((i, x) :: l) ((i, v) :: l')
theorem kz {place : Nat → Option (Nat × Nat)} : ∀ {parts : List (Nat × A)} {vparts : List (Nat × Value)} {cells : List A} {vcells : Array Value} {K : List A → Prop},
  q0 place cells parts K → ka β S w parts vparts → ARs β S w cells vcells.toList → ∃ c vc, K c ∧ ARs β S w c vc.toList ∧ Instr.fill place vcells vparts = some vc
 | [], vparts, cells, vcells, K, h, hp, hc => by
  cases hp
  exact ⟨cells, vcells, h, hc, by simp [Instr.fill]⟩
 | (i, x) :: rest, vparts, cells, vcells, K, h, hp, hc => by
  cases hp with
  | cons hx ht =>
   rename_i v l'
   simp only [q0] at h
   split at h
   ·exact h.elim
   ·rename_i off size hpl
    obtain ⟨hf, hl, ho, h⟩ := h
    rw [fc] at h
    have hcx := A.uz hx hf
    have e1 := c7 hcx
    have e2 := c7 hc
    have e3 := vm v.cells.toList 0 off vcells
    have hzip : (v.cells.zipIdx.foldl (fun cs (c, j) => cs.setIfInBounds (off + j) c) vcells).toList = setAt vcells.toList off v.cells.toList := by
     have e4 : v.cells.zipIdx.foldl (fun cs (c, j) => cs.setIfInBounds (off + j) c) vcells = (v.cells.toList.zipIdx).foldl (fun cs (c, j) => cs.setIfInBounds (off + j) c) vcells := by
      rw [← Array.foldl_toList]; simp
     rw [e4]
     simpa using e3
    obtain ⟨c, vc, hK, hR, hfill⟩ := kz h ht (vcells := v.cells.zipIdx.foldl (fun cs (c, j) => cs.setIfInBounds (off + j) c) vcells) (by
     rw [hzip]
     exact afa hc hcx (by rw [hl]; exact ho))
    refine ⟨c, vc, hK, hR, ?_⟩
    simp only [Instr.fill, hpl]
    rw [if_neg]
    ·exact hfill
    ·have e5 : v.cells.size = size := by simpa [hl] using e1
     have e6 : vcells.size = cells.length := by simpa using e2
     simp [e5, e6]; omega
theorem nc : ∀ (fs : List Field), (∀ F ∈ fs, ∃ i, P.info? F.type = some i) →
  (∃ ps : List (Nat × Nat), (fs.mapM fun f => (do pure (f.offset, ← sizeOf f.type) : Sem (Nat × Nat))).run P w = .ok ps w ∧ ps = fs.map fun f => (f.offset, P.cellsOf f.type))
 | [], _ => ⟨[], by simp, rfl⟩
 | F :: fs, h => by
  obtain ⟨ps, h1, h2⟩ := nc fs fun F hF => h F (by simp [hF])
  obtain ⟨i, hi⟩ := h F (by simp)
  refine ⟨(F.offset, P.cellsOf F.type) :: ps, ?_, by simp [h2]⟩
  simp [sizeOf, typeInfo, hi, h1, Program.cellsOf] at h1 ⊢
  simp [h1]
end
end Go.Ev

namespace Go.Ev
open Go
section
variable {P : Program} {T : Tab} {β : Own} {S : Imm} {w : World} {K : A → Prop}
theorem nx : ∀ {l : List (Nat × Nat × Bool)} {fs : List Field}, ec P l fs = true → l.length = fs.length ∧ (∀ F ∈ fs, ∃ i, P.info? F.type = some i) ∧
  ∀ j : Nat, (fs.map fun f => (f.offset, P.cellsOf f.type))[j]? = (l[j]?).map fun x => (x.1, x.2.1)
 | [], [], _ => ⟨rfl, by simp, by simp⟩
 | (o', s', g') :: l, F :: fs, hc => by
  simp only [ec, Bool.and_eq_true, beq_iff_eq] at hc
  obtain ⟨⟨⟨h1, h2⟩, h3⟩, h4⟩ := hc
  obtain ⟨e1, e2, e3⟩ := nx h4
  split at h3
  ·rename_i i d hi hd
   simp at h3
   refine ⟨by simp [e1], fun F' hF => ?_, fun j => ?_⟩
   ·rcases List.mem_cons.1 hF with rfl | hF
    ·exact ⟨i, hi⟩
    ·exact e2 _ hF
   ·cases j with
    | zero => simp [Program.cellsOf, hi, h1, h3.1]
    | succ j => simpa using e3 j
  ·simp at h3
 | [], _ :: _, h => by simp [ec] at h
 | _ :: _, [], h => by simp [ec] at h
theorem xa (hT : bw P T) {t : Nat} {parts : List (Nat × A)} {vparts : Array (Nat × Value)} (h : qs T t parts K) (hp : ka β S w parts vparts.toList) :
  j9 P β S w (Instr.build t vparts) K := by
 unfold qs at h
 split at h
 ·rename_i y hy
  obtain ⟨hz0, h⟩ := h
  have hz : y.zero ≠ [] := by
   intro e; rw [e] at hz0; simp at hz0
  obtain ⟨z, hrz, hzc⟩ := l6 hT hy w hz
  split at h
  ·rename_i l hl
   obtain ⟨i, d, hi, hd, _, _, _, hc, _⟩ := Ty.info hT hy
   rw [hl] at hc
   have key : ∃ fs, d = .struct fs ∧ ec P l fs.toList = true := by
    cases d <;> first | (simp [TK.chk] at hc; done) | exact ⟨_, rfl, by simpa [TK.chk] using hc⟩
   obtain ⟨fs, rfl, hc⟩ := key
   obtain ⟨_, hinfo, hpl⟩ := nx hc
   obtain ⟨ps, hrun, hps⟩ := nc (P := P) (w := w) fs.toList hinfo
   obtain ⟨c, vc, hK, hR, hfill⟩ := kz h hp (vcells := z.cells) (by rw [hzc]; exact mb y.zero)
   refine ⟨_, .agg vc, hK, qk hR, ?_⟩
   have hrun' : (fs.mapM fun f => (do pure (f.offset, ← sizeOf f.type) : Sem (Nat × Nat))).run P w = .ok ps.toArray w := by
    rw [Array.mapM_eq_mapM_toList]
    simp only [Sem.run_map, hrun, Result.andThen_ok]
   have hfill' : Instr.fill (ps.toArray[·]?) z.cells vparts.toList = some vc := by
    rw [← hfill]
    congr 1
    funext j
    simp only [List.getElem?_toArray, hps, hpl]
   simp only [Instr.build, Sem.run_bind, hrz, Result.andThen_ok, run_underlying hd]
   simp only [Sem.run_bind, hrun', Result.andThen_ok, hfill', Sem.run_pure]
  ·rename_i n e he
   split at h
   ·rename_i ye hye
    obtain ⟨c, vc, hK, hR, hfill⟩ := kz h hp (vcells := z.cells) (by rw [hzc]; exact mb y.zero)
    refine ⟨_, .agg vc, hK, qk hR, ?_⟩
    simp only [Instr.build, Sem.run_bind, hrz, Result.andThen_ok, run_underlying (tn hT hy he), b7 hT hye, hfill, Sem.run_pure]
   ·exact h.elim
  ·exact h.elim
 ·exact h.elim
def w9 (β : Own) (S : Imm) (w : World) : Option A → Option Value → Prop
 | none, none => True
 | some x, some v => AR β S w x v
 | _, _ => False
theorem ek {x : Option A} {v : Option Value} {d : Int} {K : Int → Prop} (h : gp x d K) (hx : w9 β S w x v) :
  (v = none ∧ K d) ∨ ∃ k i, v = some (.int k i) ∧ K i := by
 unfold gp at h
 split at h
 ·cases v
  ·exact .inl ⟨rfl, h⟩
  ·exact hx.elim
 ·rename_i k i
  cases v with
  | none => exact hx.elim
  | some v =>
   simp only [w9, AR, DR] at hx
   subst hx
   exact .inr ⟨k, i, rfl, h⟩
 ·exact h.elim
theorem fh {b : Bool} {n c : Nat} {lo hi : Option Value} {l h : Int}
  (hlo : (lo = none ∧ l = 0) ∨ ∃ k, lo = some (.int k l)) (hhi : (hi = none ∧ h = n) ∨ ∃ k, hi = some (.int k h)) (h0 : 0 ≤ l) (h1 : l ≤ h) (h2 : h ≤ n) (hc : n ≤ c) :
  (Instr.sliceBounds b n c lo hi none).run P w = .ok (l.toNat, h.toNat, c) w := by
 have e1 : (h.toNat : Int) = h := Int.toNat_of_nonneg (by omega)
 have b1 : 0 ≤ h := by omega
 have b2 : h ≤ (c : Int) := by omega
 rcases hlo with ⟨rfl, rfl⟩ | ⟨kl, rfl⟩ <;> rcases hhi with ⟨rfl, rfl⟩ | ⟨kh, rfl⟩
 ·simp [Instr.sliceBounds]
 ·simp [Instr.sliceBounds, run_sliceBound, b1, b2]
 ·simp [Instr.sliceBounds, run_sliceBound, h0, h1]
 ·simp [Instr.sliceBounds, run_sliceBound, h0, b1, b2, e1, h1]
theorem xi (hT : bw P T) {hp : Nat → Option (Bool × List A)} (hh : rm β S w hp) {t : Nat} {x : A} {lo hi mx : Option A} {u : Value} {vlo vhi vmx : Option Value} (h : k8 T hp t x lo hi mx K)
  (hx : AR β S w x u) (hlo : w9 β S w lo vlo) (hhi : w9 β S w hi vhi) (hmx : w9 β S w mx vmx) : j9 P β S w (Instr.sliceAt t u vlo vhi vmx) K := by
 unfold k8 at h
 split at h
 ·exact h.elim
 ·have : vmx = none := by cases vmx with | none => rfl | some _ => exact hmx.elim
  subst this
  split at h
  ·rename_i s
   obtain ⟨ht, h⟩ := h
   simp only [Option.any_eq_true, decide_eq_true_eq] at ht
   obtain ⟨yt, hyt, hk⟩ := ht
   have hu := ia hT hyt hk
   simp only [AR, DR] at hx
   subst hx
   have key : ∃ l h : Int, ((vlo = none ∧ l = 0) ∨ ∃ k, vlo = some (.int k l)) ∧ ((vhi = none ∧ h = s.size) ∨ ∃ k, vhi = some (.int k h)) ∧ (0 ≤ l ∧ l ≤ h ∧ h ≤ s.size) ∧ EqE (s.extract l.toNat h.toNat) fun z => K (.d (.str z)) := by
    rcases ek h hlo with ⟨h1, h⟩ | ⟨k1, i1, h1, h⟩ <;> rcases ek h hhi with ⟨h2, h⟩ | ⟨k2, i2, h2, h⟩
    ·exact ⟨_, _, .inl ⟨h1, rfl⟩, .inl ⟨h2, rfl⟩, h.c, h.k⟩
    ·exact ⟨_, _, .inl ⟨h1, rfl⟩, .inr ⟨_, h2⟩, h.c, h.k⟩
    ·exact ⟨_, _, .inr ⟨_, h1⟩, .inl ⟨h2, rfl⟩, h.c, h.k⟩
    ·exact ⟨_, _, .inr ⟨_, h1⟩, .inr ⟨_, h2⟩, h.c, h.k⟩
   obtain ⟨l, hh, e1, e2, ⟨b0, b1, b2⟩, _, rfl, hK⟩ := key
   refine ⟨_, _, hK, AR.str _, ?_⟩
   simp [Instr.sliceAt, Instr.slice, run_underlying hu, fh e1 e2 b0 b1 b2 (Nat.le_refl _)]
  ·rename_i n cells
   obtain ⟨e, ye, hu, hye, h⟩ := cf hT h
   simp only [AR, DR] at hx
   obtain ⟨a, c, rfl, hc, hl⟩ := hx
   have key : ∃ l h : Int, ((vlo = none ∧ l = 0) ∨ ∃ k, vlo = some (.int k l)) ∧ ((vhi = none ∧ h = n) ∨ ∃ k, vhi = some (.int k h)) ∧ (0 ≤ l ∧ l ≤ h ∧ h ≤ n) ∧ EqE (.slice (h - l).toNat ((cells.drop (l.toNat * ye.size)).take ((h - l).toNat * ye.size))) fun y => K (.d y) := by
    rcases ek h hlo with ⟨h1, h⟩ | ⟨k1, i1, h1, h⟩ <;> rcases ek h hhi with ⟨h2, h⟩ | ⟨k2, i2, h2, h⟩
    ·exact ⟨_, _, .inl ⟨h1, rfl⟩, .inl ⟨h2, rfl⟩, h.c, h.k⟩
    ·exact ⟨_, _, .inl ⟨h1, rfl⟩, .inr ⟨_, h2⟩, h.c, h.k⟩
    ·exact ⟨_, _, .inr ⟨_, h1⟩, .inl ⟨h2, rfl⟩, h.c, h.k⟩
    ·exact ⟨_, _, .inr ⟨_, h1⟩, .inr ⟨_, h2⟩, h.c, h.k⟩
   obtain ⟨l, hh, e1, e2, ⟨b0, b1, b2⟩, _, rfl, hK⟩ := key
   refine ⟨_, .slice (if c = l.toNat then a else a.map (·.add (l.toNat * ye.size))) (hh.toNat - l.toNat) (c - l.toNat), hK, ?_, ?_⟩
   ·simp only [AR, DR]
    refine ⟨_, _, by rw [show (hh - l).toNat = hh.toNat - l.toNat by omega], by omega, ?_⟩
    rcases hl with rfl | ⟨b, o, rfl, hl⟩
    ·exact .inl (by simp)
    ·by_cases hcl : c = l.toNat
     ·refine .inl ?_
      have : (hh - l).toNat = 0 := by omega
      rw [this]; simp
     ·refine .inr ⟨b, o + l.toNat * ye.size, ?_, aak (lq hl _) _⟩
      rw [if_neg hcl]
      simp [dh]
   ·simp [Instr.sliceAt, Instr.slice, run_underlying hu, fh e1 e2 b0 b1 b2 hc, b7 hT hye]
  ·rename_i b o n sz
   obtain ⟨e, ye, hu, hye, hsz, h⟩ := cf hT h
   have key : ∃ l h : Int, ((vlo = none ∧ l = 0) ∨ ∃ k, vlo = some (.int k l)) ∧ ((vhi = none ∧ h = n) ∨ ∃ k, vhi = some (.int k h)) ∧ (0 ≤ l ∧ l ≤ h ∧ h ≤ n) ∧ K (.own b (o + l.toNat * ye.size) (h - l).toNat sz) := by
    rcases ek h hlo with ⟨h1, h⟩ | ⟨k1, i1, h1, h⟩ <;> rcases ek h hhi with ⟨h2, h⟩ | ⟨k2, i2, h2, h⟩
    ·exact ⟨_, _, .inl ⟨h1, rfl⟩, .inl ⟨h2, rfl⟩, h.c, h.k⟩
    ·exact ⟨_, _, .inl ⟨h1, rfl⟩, .inr ⟨_, h2⟩, h.c, h.k⟩
    ·exact ⟨_, _, .inr ⟨_, h1⟩, .inl ⟨h2, rfl⟩, h.c, h.k⟩
    ·exact ⟨_, _, .inr ⟨_, h1⟩, .inr ⟨_, h2⟩, h.c, h.k⟩
   obtain ⟨l, hh, e1, e2, ⟨b0, b1, b2⟩, hK⟩ := key
   simp only [AR] at hx
   rcases hx with ⟨k, hk, c, C, Tc, fr, rfl, hc, hC, hl⟩ | ⟨rfl, hbn, a, rfl⟩
   ·refine ⟨_, .slice (if c = l.toNat then some ⟨k, o, none⟩ else some ⟨k, o + l.toNat * ye.size, none⟩) (hh.toNat - l.toNat) (c - l.toNat), hK, ?_, ?_⟩
    ·simp only [AR]
     by_cases hcl : c = l.toNat
     ·exact .inr ⟨by omega, by rw [hk]; simp, some ⟨k, o, none⟩, by rw [if_pos hcl, show hh.toNat - l.toNat = 0 by omega, show c - l.toNat = 0 by omega]⟩
     ·refine .inl ⟨k, hk, c - l.toNat, C, Tc, fr, by rw [if_neg hcl, show (hh - l).toNat = hh.toNat - l.toNat by omega], by omega, hC, ?_⟩
      rw [hsz, Nat.sub_mul]
      have : l.toNat * ye.size ≤ c * ye.size := Nat.mul_le_mul_right _ (by omega)
      rw [hsz] at hl
      omega
    ·simp [Instr.sliceAt, Instr.slice, run_underlying hu, fh e1 e2 b0 b1 b2 hc, b7 hT hye, dh]
   ·refine ⟨_, .slice a 0 0, hK, ?_, ?_⟩
    ·simp only [AR]
     exact .inr ⟨by omega, hbn, a, by rfl⟩
    ·have e3 : l = 0 := by omega
     have e4 : hh = 0 := by omega
     subst e3 e4
     simp [Instr.sliceAt, Instr.slice, run_underlying hu, fh e1 e2 b0 b1 b2 (Nat.le_refl 0), b7 hT hye]
  ·rename_i b o
   simp only [AR] at hx
   obtain ⟨k, hk, rfl⟩ := hx
   split at h
   ·rename_i fr cells hcells
    obtain ⟨C, Tc, hC, hlen, _⟩ := hh b k _ _ hk hcells
    obtain ⟨n, e, ye, hu, hye, hn, h⟩ := ix hT h
    have key : ∃ l h : Int, ((vlo = none ∧ l = 0) ∨ ∃ k, vlo = some (.int k l)) ∧ ((vhi = none ∧ h = n) ∨ ∃ k, vhi = some (.int k h)) ∧ (0 ≤ l ∧ l ≤ h ∧ h ≤ n) ∧ K (.own b (o + l.toNat * ye.size) (h - l).toNat ye.size) := by
     rcases ek h hlo with ⟨h1, h⟩ | ⟨k1, i1, h1, h⟩ <;> rcases ek h hhi with ⟨h2, h⟩ | ⟨k2, i2, h2, h⟩
     ·exact ⟨_, _, .inl ⟨h1, rfl⟩, .inl ⟨h2, rfl⟩, h.c, h.k⟩
     ·exact ⟨_, _, .inl ⟨h1, rfl⟩, .inr ⟨_, h2⟩, h.c, h.k⟩
     ·exact ⟨_, _, .inr ⟨_, h1⟩, .inl ⟨h2, rfl⟩, h.c, h.k⟩
     ·exact ⟨_, _, .inr ⟨_, h1⟩, .inr ⟨_, h2⟩, h.c, h.k⟩
    obtain ⟨l, hh', e1, e2, ⟨b0, b1, b2⟩, hK⟩ := key
    refine ⟨_, .slice (if n = l.toNat then some ⟨k, o, none⟩ else some ⟨k, o + l.toNat * ye.size, none⟩) (hh'.toNat - l.toNat) (n - l.toNat), hK, ?_, ?_⟩
    ·simp only [AR]
     by_cases hcl : n = l.toNat
     ·exact .inr ⟨by omega, by rw [hk]; simp, some ⟨k, o, none⟩, by rw [if_pos hcl, show hh'.toNat - l.toNat = 0 by omega, show n - l.toNat = 0 by omega]⟩
     ·refine .inl ⟨k, hk, n - l.toNat, C, Tc, _, by rw [if_neg hcl, show (hh' - l).toNat = hh'.toNat - l.toNat by omega], by omega, hC, ?_⟩
      rw [Nat.sub_mul]
      have : l.toNat * ye.size ≤ n * ye.size := Nat.mul_le_mul_right _ (by omega)
      omega
    ·simp only [Instr.sliceAt, Sem.run_bind, run_underlying hu, Result.andThen_ok, Instr.sureAddr, Sem.run_pure, fh e1 e2 b0 b1 b2 (Nat.le_refl _), b7 hT hye, dh]
     congr 2
     split <;> rfl
   ·exact h.elim
  ·exact h.elim
theorem abc (hT : bw P T) {t ty : Nat} {x : A} {u : Value} (h : abb T t x K) (hx : AR β S w x u) : j9 P β S w (Builtin.len_ #[t] ty #[u]) K := by
 unfold abb at h
 split at h
 ·obtain ⟨e, ye, hu, hye, h⟩ := cf hT h
  simp only [AR, DR] at hx
  obtain ⟨a, c, rfl, hc, hl⟩ := hx
  exact ⟨_, _, h, AR.int _ _, by simp [Builtin.len_, run_underlying hu, goInt]⟩
 ·obtain ⟨e, ye, hu, hye, h⟩ := cf hT h
  simp only [AR, DR] at hx
  subst hx
  exact ⟨_, _, h, AR.int _ _, by simp [Builtin.len_, run_underlying hu, goInt]⟩
 ·obtain ⟨e, ye, hu, hye, h⟩ := cf hT h
  simp only [AR] at hx
  rcases hx with ⟨k, hk, c, C, Tc, fr, rfl, hc, hC, hl⟩ | ⟨rfl, hbn, a, rfl⟩ <;>
   exact ⟨_, _, h, AR.int _ _, by simp [Builtin.len_, run_underlying hu, goInt]⟩
 ·obtain ⟨ht, _, rfl, h⟩ := h
  simp only [Option.any_eq_true, decide_eq_true_eq] at ht
  obtain ⟨yt, hyt, hk⟩ := ht
  simp only [AR, DR] at hx
  subst hx
  exact ⟨_, _, h, AR.int _ _, by simp [Builtin.len_, run_underlying (ia hT hyt hk), goInt]⟩
 ·obtain ⟨n, e, ye, hu, hye, h⟩ := ix hT h
  exact ⟨_, _, h, AR.int _ _, by simp [Builtin.len_, run_underlying hu, goInt]⟩
theorem ta {b : Bool} {xs : List A} {vs : List Value} {at_ : Array TypeId} {ty : Nat} (h : ya b xs K) (hx : ARs β S w xs vs) :
  j9 P β S w (if b then Builtin.max_ at_ ty vs.toArray else Builtin.min_ at_ ty vs.toArray) K := by
 unfold ya at h
 split at h
 ·simp only [ARs, AR, DR] at hx
  obtain ⟨u, us, rfl, rfl, u2, us2, rfl, rfl, rfl⟩ := hx
  obtain ⟨z, rfl, h⟩ := h
  cases b
  ·exact ⟨_, _, h, AR.int _ _, by simp [Builtin.min_, Builtin.min2]⟩
  ·exact ⟨_, _, h, AR.int _ _, by simp [Builtin.max_, Builtin.max2]⟩
 ·exact h.elim
theorem tq {x : A} {u : Value} {i : Nat} (h : lv x i K) (hx : AR β S w x u) : j9 P β S w (Instr.extract u i) K := by
 unfold lv at h
 split at h
 ·rename_i l
  obtain ⟨x, h1, h2⟩ := h
  simp only [AR, DR] at hx
  obtain ⟨vs, rfl, hl⟩ := hx
  obtain ⟨v', hv', hR⟩ := fw hl h1
  have : vs[i]? = some v' := by simpa using hv'
  exact ⟨_, v', h2, by simp only [AR]; exact hR, by simp [Instr.extract, this]⟩
 ·rename_i l
  obtain ⟨x, h1, h2⟩ := h
  simp only [AR] at hx
  obtain ⟨vs, rfl, hl⟩ := hx
  obtain ⟨v', hv', hR⟩ := gm hl h1
  have : vs[i]? = some v' := by simpa using hv'
  exact ⟨_, v', h2, hR, by simp [Instr.extract, this]⟩
 ·exact h.elim
theorem z1 {c a b : A} {vc va vb : Value} (h : wg c a b K) (hc : AR β S w c vc) (ha : AR β S w a va) (hb : AR β S w b vb) :
  j9 P β S w (do pure (if ← asBool vc then va else vb)) K := by
 unfold wg at h
 split at h
 ·rename_i t
  simp only [AR, DR] at hc
  subst hc
  cases t
  ·exact ⟨_, _, h.ff rfl, hb, by simp [asBool]⟩
  ·exact ⟨_, _, h.tt rfl, ha, by simp [asBool]⟩
 ·exact h.elim
theorem w9.map {ev : Operand → A} {ρ : Operand → Value} (he : ∀ x, AR β S w (ev x) (ρ x)) (x : Option Operand) : w9 β S w (x.map ev) (x.map ρ) := by
 cases x with
 | none => trivial
 | some x => exact he x
theorem ka.map {ev : Operand → A} {ρ : Operand → Value} (he : ∀ x, AR β S w (ev x) (ρ x)) : ∀ l : List (Nat × Operand), ka β S w (l.map fun p => (p.1, ev p.2)) (l.map fun p => (p.1, ρ p.2))
 | [] => .nil
 | p :: l => .cons (he p.2) (ka.map he l)
theorem ARs.map {ev : Operand → A} {ρ : Operand → Value} (he : ∀ x, AR β S w (ev x) (ρ x)) : ∀ l : List Operand, ARs β S w (l.map ev) (l.map ρ)
 | [] => rfl
 | p :: l => ⟨_, _, rfl, he p, ARs.map he l⟩
theorem nf {s : Sem Value} {v : Value} (h : s.run P w = .ok v w) : (do pure (.value (← s)) : Sem Next).run P w = .ok (.value v) w := by
 simp [h]
theorem ab0 (hT : bw P T) {hp : Nat → Option (Bool × List A)} (hh : rm β S w hp) {ev : Operand → A} {ρ : Operand → Value} (he : ∀ x, AR β S w (ev x) (ρ x))
  (o : Oper) (h : ez T ev hp o.op K) : ∃ r v, K r ∧ AR β S w r v ∧ (execOp ρ o).run P w = .ok (.value v) w := by
 obtain ⟨dst, op, type, pos, after, guard⟩ := o
 simp only at h
 unfold ez at h
 split at h
 ·exact ⟨_, _, h, he _, by simp [execOp]⟩
 ·exact ⟨_, _, h, he _, by simp [execOp]⟩
 ·obtain ⟨r, v, h1, h2, h3⟩ := z1 (P := P) h (he _) (he _) (he _)
  refine ⟨r, v, h1, h2, ?_⟩
  simp only [execOp]
  simp only [Sem.run_bind] at h3 ⊢
  revert h3
  cases (asBool (ρ _)).run P w <;> simp
 ·rename_i t parts
  obtain ⟨r, v, h1, h2, h3⟩ := xa (P := P) hT h (vparts := parts.map fun p => (p.1, ρ p.2)) (by simpa using ka.map he parts.toList)
  exact ⟨r, v, h1, h2, nf h3⟩
 ·obtain ⟨r, v, h1, h2, h3⟩ := q6 (P := P) hT hh h (he _)
  exact ⟨r, v, h1, h2, nf h3⟩
 ·rename_i x
  have hx := he x
  split at h
  ·rename_i b o hev
   rw [hev] at hx
   have hx' := hx
   simp only [AR] at hx
   obtain ⟨k, hk, hv⟩ := hx
   exact ⟨_, ρ x, h, hx', by simp [execOp, hv]⟩
  ·rename_i b t n hev
   rw [hev] at hx
   have hx' := hx
   simp only [AR] at hx
   obtain ⟨k, hk, hv, _⟩ := hx
   exact ⟨_, ρ x, h, hx', by simp [execOp, hv]⟩
  ·rename_i c hev
   rw [hev] at hx
   have hx' := hx
   simp only [AR] at hx
   obtain ⟨k, o, hv, hl⟩ := hx
   exact ⟨_, ρ x, h, hx', by simp [execOp, hv]⟩
  ·exact h.elim
 ·rename_i op xT x y _
  obtain ⟨r, v, h1, h2, h3⟩ := aaq (P := P) hT (x := x) (y := y) h (he _) (he _)
  exact ⟨r, v, h1, h2, nf h3⟩
 ·obtain ⟨r, v, h1, h2, h3⟩ := ad4 (P := P) h (he _)
  exact ⟨r, v, h1, h2, nf h3⟩
 ·obtain ⟨r, v, h1, h2, h3⟩ := za (P := P) hT hh h (he _)
  exact ⟨r, v, h1, h2, nf h3⟩
 ·obtain ⟨r, v, h1, h2, h3⟩ := xi (P := P) hT hh h (he _) (w9.map he _) (w9.map he _) (w9.map he _)
  exact ⟨r, v, h1, h2, nf h3⟩
 ·obtain ⟨r, v, h1, h2, h3⟩ := qz (P := P) hT h (he _)
  exact ⟨r, v, h1, h2, nf h3⟩
 ·obtain ⟨r, v, h1, h2, h3⟩ := xf (P := P) hT h (he _)
  exact ⟨r, v, h1, h2, nf h3⟩
 ·obtain ⟨r, v, h1, h2, h3⟩ := q2 (P := P) hT h (he _) (he _)
  exact ⟨r, v, h1, h2, nf h3⟩
 ·obtain ⟨r, v, h1, h2, h3⟩ := xg (P := P) hT h (he _) (he _)
  exact ⟨r, v, h1, h2, nf h3⟩
 ·obtain ⟨r, v, h1, h2, h3⟩ := tq (P := P) h (he _)
  exact ⟨r, v, h1, h2, nf h3⟩
 ·rename_i c
  obtain ⟨callee, args, argTypes⟩ := c
  simp only at h
  split at h
  ·split at h
   ·rename_i t x ht hx
    obtain ⟨r, v, h1, h2, h3⟩ := abc (P := P) (ty := type) hT h (he x)
    have e1 : argTypes = #[t] := by cases argTypes; simp_all
    have e2 : args = #[x] := by cases args; simp_all
    subst e1 e2
    exact ⟨r, v, h1, h2, by simp [execOp, resolve, invoke, builtin, h3]⟩
   ·exact h.elim
  ·obtain ⟨r, v, h1, h2, h3⟩ := ta (P := P) (at_ := argTypes) (ty := type) h (ARs.map he args.toList)
   simp only [if_true] at h3
   have e1 : (args.toList.map ρ).toArray = args.map ρ := by cases args; simp
   rw [e1] at h3
   exact ⟨r, v, h1, h2, by simp [execOp, resolve, invoke, builtin, h3]⟩
  ·obtain ⟨r, v, h1, h2, h3⟩ := ta (P := P) (at_ := argTypes) (ty := type) h (ARs.map he args.toList)
   simp only [Bool.false_eq_true, if_false] at h3
   have e1 : (args.toList.map ρ).toArray = args.map ρ := by cases args; simp
   rw [e1] at h3
   exact ⟨r, v, h1, h2, by simp [execOp, resolve, invoke, builtin, h3]⟩
  ·exact h.elim
 ·rename_i f first caps
  split at h
  ·rename_i e
   have e1 : first = #[] := by cases first; simp_all
   subst e1
   refine ⟨_, .func (.func f) #[] (caps.map ρ), h, ?_, ?_⟩
   ·simp only [AR]
    refine ⟨_, rfl, ?_⟩
    have := ARs.map he caps.toList
    simpa using this
   ·simp [execOp, Instr.makeFunc]
  ·exact h.elim
 ·exact h.elim
end
end Go.Ev

namespace Go.Ev
open Go
def lk {α : Type} : List (Nat × α) → Nat → Option α
 | [], _ => none
 | (k, x) :: l, t => if k = t then some x else lk l t
structure St where
 n : Nat
 env : List (Nat × A)
 heap : List (Nat × Bool × List A)
def St.get (σ : St) (t : Nat) : A := (lk σ.env t).getD (.d .any)
def St.put (σ : St) : Option Nat → A → St
 | some d, r => { σ with env := (d, r) :: σ.env }
 | none, _ => σ
def A.force (a : A) (K : A → Prop) : Prop :=
 match a with
 | .d x => K (.d x)
 | .ptr b o => K (.ptr b o)
 | .tptr b t n => K (.tptr b t n)
 | .town b n e => K (.town b n e)
 | .elem c => K (.elem c)
 | .own b o n s => K (.own b o n s)
 | .agg l => K (.agg l)
 | .tup l => K (.tup l)
 | .fn f l => K (.fn f l)
theorem A.force_eq (a : A) (K : A → Prop) : a.force K = K a := by cases a <;> rfl
def St.gl (σ : St) (dst : Option Nat) (r : A) (K : St → Prop) : Prop :=
 match σ, dst with
 | ⟨n, env, heap⟩, some d => r.force fun r => K ⟨n, (d, r) :: env, heap⟩
 | ⟨n, env, heap⟩, none => K ⟨n, env, heap⟩
theorem St.bu (σ : St) (dst : Option Nat) (r : A) (K : St → Prop) : σ.gl dst r K = K (σ.put dst r) := by
 cases σ
 cases dst
 ·rfl
 ·simp only [St.gl, A.force_eq]; rfl
abbrev bj := Nat → List D
def St.ev (G : bj) (σ : St) : Operand → A
 | .tmp t => σ.get t
 | .const v => acj v
 | .global g => .elem (G g)
 | .func f => .d (.raw (.func (.func f) #[] #[]))
def St.hp (σ : St) (b : Nat) : Option (Bool × List A) := lk σ.heap b
def D.dn : D → D
 | .nil => .slice 0 []
 | .agg l => .agg (l.map fun | .nil => .slice 0 [] | x => x)
 | .tup l => .tup (l.map fun | .nil => .slice 0 [] | .agg m => .agg (m.map fun | .nil => .slice 0 [] | x => x) | x => x)
 | x => x
def fb (P : Program) (f : FuncId) : Bool := match P.funcs[f]? with
 | some fn => fn.body.isSome && !(fn.name == "runtime.NumGoroutine")
 | none => false
structure Sim (P : Program) (G : bj) (fresh : Bool) (f : FuncId) (args : List D) (r : D) : Prop where
 can : fb P f = true
 run : ∀ (S : Imm) (w : World) (vs : List Value), (∀ k o, S k o → k < w.heap.size) → (∀ g, DRL S w g 0 (G g)) → DRs S w args vs →
  Calls P f vs.toArray w fun e w' => ∃ v, e = .returned v ∧ RowKit.Below w.heap.size w w' ∧
   ∃ S' : Imm, (∀ k o, S' k o → (fresh = false ∧ S k o) ∨ (w.heap.size ≤ k ∧ k < w'.heap.size)) ∧ DR S' w' r v
inductive fv (P : Program) (G : bj) (f : FuncId) (xs : List D) (K : Bool → D → Prop) : Prop where
 | mk (fresh : Bool) (r : D) (h : Sim P G fresh f xs r) (k : K fresh r)
def Ty.yi (y : Ty) : Bool := y.size != 0 && !y.zero.isEmpty && y.zero.length == y.size && y.bytes != 0
theorem Ty.qg {y : Ty} (h : y.yi = true) : y.size ≠ 0 ∧ y.zero ≠ [] ∧ y.zero.length = y.size ∧ y.bytes ≠ 0 := by
 simp only [Ty.yi, Bool.and_eq_true, bne_iff_ne, Bool.not_eq_true', List.isEmpty_eq_false_iff, beq_iff_eq] at h
 exact ⟨h.1.1.1, h.1.1.2, h.1.2, h.2⟩
def ij {α : Type} (n : Nat) (z : List α) : List α := (List.replicate n z).flatten
def Ty.to (y : Ty) (d e : Nat) : A := bif y.tag then .tptr d e y.zero.length else .ptr d 0
def l4 (T : Tab) (ev : Operand → A) (d : Nat) (op : Op) (K : A → List A → Prop) : Prop :=
 match op with
 | .alloc e => match T e with
  | some y => Cd ((!y.zero.isEmpty) = true) (K (y.to d e) (k9 y.zero))
  | none => False
 | .box _ x => Cd ((ev x).full = true) (K (.ptr d 0) (ev x).cells)
 | .makeSlice t l c => bh T t fun _ ye => match ev l, ev c with
  | .d (.int _ l), .d (.int _ c) => Cd (l = c) (Cd (0 ≤ l ∧ ye.bytes * l ≤ 140737488355328) (Cd (ye.yi = true) (EqE (ij l.toNat (k9 ye.zero)) fun row => K (.own d 0 l.toNat ye.size) row)))
  | _, _ => False
 | .buildSlice t len parts => bh T t fun _ ye => Cd ((ye.yi && decide (len * ye.size ≤ 4096)) = true)
   (q0 (fun i => some (i * ye.size, ye.size)) (ij len (k9 ye.zero)) (parts.toList.map fun p => (p.1, ev p.2)) fun c => K (.own d 0 len ye.size) c)
 | .slice t x lo hi (some m) => match ev x with
  | .d (.slice _ _) => bh T t fun _ ye => match lo, hi with
   | none, some hi => ∃ kh km, ev hi = .d (.int kh 0) ∧ ev m = .d (.int km 0) ∧ K (.own d 0 0 ye.size) []
   | _, _ => False
  | _ => False
 | _ => False
mutual
def A.kill (b : Nat) : A → A
 | .ptr b' o => if b' = b then .d .any else .ptr b' o
 | .tptr b' t n => if b' = b then .d .any else .tptr b' t n
 | .town b' n e => if b' = b then .d .any else .town b' n e
 | .own b' o n sz => if b' = b then .d .any else .own b' o n sz
 | .agg l => .agg (A.ew b l)
 | .tup l => .tup (A.ew b l)
 | .fn f l => .fn f (A.ew b l)
 | x => x
def A.ew (b : Nat) : List A → List A
 | [] => []
 | x :: l => x.kill b :: A.ew b l
end
@[simp] theorem A.afr (b : Nat) : ∀ l : List D, A.ew b (l.map A.d) = l.map A.d
 | [] => rfl
 | x :: l => by simp [A.ew, A.kill, A.afr b l]
def tu : List (Nat × Bool × List A) → Nat → List A → List (Nat × Bool × List A)
 | [], _, _ => []
 | (k, f, l) :: h, b, l' => if k = b then (k, f, l') :: h else (k, f, l) :: tu h b l'
def St.wr (σ : St) (b : Nat) (l : List A) : St := { σ with heap := tu σ.heap b l }
def St.kill (σ : St) (b : Nat) : St :=
 { σ with env := σ.env.map fun x => (x.1, x.2.kill b), heap := σ.heap.map fun x => (x.1, x.2.1, A.ew b x.2.2) }
def St.new (σ : St) (d : Nat) (l : List A) : St := { σ with heap := (d, false, l) :: σ.heap }
def St.freeze (σ : St) : List Nat → St
 | [] => σ
 | bs => { σ with heap := σ.heap.map fun x => (x.1, x.2.1 || bs.contains x.1, x.2.2) }
def ei (hp : Nat → Option (Bool × List A)) (sz : Nat) (x : A) (K : Nat → List D → Prop) : Prop :=
 match x with
 | .d (.slice n l) => Cd (l.length = n * sz) (K n l)
 | .d .nil => K 0 []
 | .d (.str s) => Cd (sz = 1) (K s.size (s.data.toList.map fun x => D.int .u8 (x.toNat : Int)))
 | .own b o n sz' => match hp b with
  | some (_, l) => DsE l fun ds => Cd (sz' = sz) (Cd (o + n * sz ≤ l.length) (K n ((ds.drop o).take (n * sz))))
  | none => False
 | _ => False
def abk (b o : Nat) : Nat := bif (Nat.blt b 1000000 || Nat.ble 2000000 b) then o else o + 1
theorem adm {b o : Nat} (h : abk b o = 0) : o = 0 ∧ (b < 1000000 ∨ 2000000 ≤ b) := by
 unfold abk at h
 cases hb : (Nat.blt b 1000000 || Nat.ble 2000000 b) with
 | false => rw [hb] at h; simp at h
 | true =>
  rw [hb] at h
  simp only [cond_true] at h
  rw [Bool.or_eq_true, Nat.blt_eq, Nat.ble_eq] at hb
  exact ⟨h, hb⟩
def ma (T : Tab) (G : bj) (σ : St) (d : Option Nat) (op : Op) (K : A → St → Prop) : Prop :=
 match op with
 | .store t a x => match σ.ev G a with
  | .ptr b o => match σ.hp b, T t with
   | some (false, l), some y => Cd ((σ.ev G x).full = true) (Cd ((σ.ev G x).cells.length = y.size) (Cd ((σ.ev G x).cells.all A.one = true) (Cd (o + y.size ≤ l.length) (EqE (setAt l o (σ.ev G x).cells) fun row => K (.d .any) (σ.wr b row)))))
   | _, _ => False
  | _ => False
 | .call c => match c.callee, c.argTypes.toList, c.args.toList, d with
  | .builtin .append, [t, t2], [s, x], some d => bh T t fun _ ye => Cd (((T t2).any Ty.isApp && ye.yi) = true) <|
   ei σ.hp ye.size (σ.ev G x) fun m cs => Cd (∀ c ∈ cs, (A.d c).one = true) <| match σ.ev G s with
    | .d .nil => Cd (m * ye.bytes ≤ 70368744177664) (Cd ((σ.hp d).isNone = true) (EqE (cs.map A.d) fun row => K (.own d 0 m ye.size) (σ.new d row)))
    | .own b o n sz => match σ.hp b with
     | some (false, l) => Cd (abk b o = 0 ∧ sz = ye.size) (Cd (l.length = n * sz) (Cd ((n + m) * ye.bytes ≤ 70368744177664) (DsE l fun _ => EqE (l ++ cs.map A.d) fun row => K (.own b 0 (n + m) sz) ((σ.kill b).wr b row))))
     | _ => False
    | _ => False
  | _, _, _, _ => False
 | _ => False
def e8 (hp : Nat → Option (Bool × List A)) (a : A) (K : D → List Nat → Prop) : Prop :=
 match a with
 | .d x => K x.dn []
 | .own b o n sz => match hp b with
  | some (_, l) => DsE l fun ds => EqE (D.slice n ((ds.drop o).take (n * sz))) fun x => K x [b]
  | none => False
 | .ptr b o => match hp b with
  | some (_, l) => DsE l fun ds => K (.ptrd (ds.drop o)) [b]
  | none => False
 | .elem cells => K (.ptrd cells) []
 | _ => False
def ej (hp : Nat → Option (Bool × List A)) : List A → (List D → List Nat → Prop) → Prop
 | [], K => K [] []
 | a :: as, K => e8 hp a fun x bs => ej hp as fun xs bs' => K (x :: xs) (bs ++ bs')
def gx (hp : Nat → Option (Bool × List A)) (a : A) (K : D → List Nat → Prop) : Prop :=
 match a with
 | .agg l => ej hp l fun xs bs => K (.agg xs) bs
 | .fn f l => ej hp l fun xs bs => K (.fnd f xs) bs
 | a => e8 hp a K
def jb (hp : Nat → Option (Bool × List A)) : List A → (List D → List Nat → Prop) → Prop
 | [], K => K [] []
 | a :: as, K => gx hp a fun x bs => jb hp as fun xs bs' => K (x :: xs) (bs ++ bs')
def lf (P : Program) (G : bj) (σ : St) (op : Op) (K : A → St → Prop) : Prop :=
 match op with
 | .call c => match c.callee with
  | .value (.func f) => jb σ.hp (c.args.toList.map (σ.ev G)) fun xs bs => fv P G f xs fun fresh r => K (.d r) (if fresh then σ else σ.freeze bs)
  | .value x => match σ.ev G x with
   | .fn f cs => jb σ.hp (c.args.toList.map (σ.ev G) ++ cs) fun xs bs => fv P G f xs fun fresh r => K (.d r) (if fresh then σ else σ.freeze bs)
   | _ => False
  | _ => False
 | _ => False
def kindOf : Op → Nat
 | .alloc _ | .box _ _ | .makeSlice _ _ _ | .buildSlice _ _ _ | .slice _ _ _ _ (some _) => 1
 | .store _ _ _ => 2
 | .call c => match c.callee with
  | .builtin .append | .builtin .copy => 2
  | .builtin _ => 0
  | _ => 3
 | _ => 0
def jc (P : Program) (G : bj) (T : Tab) (σ : St) (o : Oper) (K : St → Prop) : Prop :=
 match kindOf o.op with
 | 0 => ez T (σ.ev G) σ.hp o.op fun r => σ.gl o.dst r K
 | 1 => match o.dst with
  | some d => Cd ((σ.hp d).isNone = true) (l4 T (σ.ev G) d o.op fun r l => (σ.new d l).gl (some d) r K)
  | none => False
 | 2 => ma T G σ o.dst o.op fun r σ' => σ'.gl o.dst r K
 | _ => lf P G σ o.op fun r σ' => σ'.gl o.dst r K
def zg (ops : Array Oper) (j : Nat) : Option Nat := (ops[j]?).bind (·.dst)
def jv (ops : Array Oper) (σ : St) (o : Oper) (yes : St → Prop) (no : St → Prop) : Prop :=
 match o.guard with
 | none => yes σ
 | some (j, want) => match zg ops j with
  | none => False
  | some g => match σ.get g with
   | .d (.bool t) => match want with
    | true => Br t (σ.gl (some g) (.d (.bool true)) yes) (σ.gl (some g) (.d (.bool false)) no)
    | false => Br t (σ.gl (some g) (.d (.bool true)) no) (σ.gl (some g) (.d (.bool false)) yes)
   | .d (.tup []) => no σ
   | _ => False
def pj (P : Program) (G : bj) (T : Tab) (ops : Array Oper) : List Oper → St → (St → Prop) → Prop
 | [], σ, Q => Q σ
 | o :: rest, σ, Q => jv ops σ o (fun σ => jc P G T σ o fun σ' => pj P G T ops rest σ' Q) (fun σ => σ.gl o.dst (.d (.tup [])) fun σ => pj P G T ops rest σ Q)
def Own.at (M : Own) (k : Nat) : Prop := ∃ b, M b = some (some k)
structure Ext (w0 : World) (M : Own) (w : World) : Prop where
 os : w.os = w0.os
 tape : w.tape = w0.tape
 output : w.output = w0.output
 size : w0.heap.size ≤ w.heap.size
 block : ∀ k, k < w0.heap.size → ¬ M.at k → w.heap[k]? = w0.heap[k]?
 ln : kd w0 w
structure Rel (G : bj) (w0 : World) (M : Own) (S0 : Imm) (σ : St) (a : Act) (w : World) (β : Own) (S : Imm) : Prop where
 defers : a.defers = []
 size : a.tmps.size = σ.n
 env : ∀ t x, lk σ.env t = some x → AR β S w x (a.tmps.getD t undef)
 glob : ∀ g, DRL S w g 0 (G g)
 keys : ∀ b, β b ≠ none → lk σ.heap b ≠ none
 rd : ∀ b k fr l, β b = some (some k) → lk σ.heap b = some (fr, l) → Rd β S w k l
 live : ∀ b k l, β b = some (some k) → lk σ.heap b = some (false, l) → (∀ o, ¬ S k o) ∧ (w0.heap.size ≤ k ∨ M.at k)
 froz : ∀ b k l, β b = some (some k) → lk σ.heap b = some (true, l) → ∃ ds : List D, l = ds.map A.d ∧ DRL S w k 0 ds
 fd : ∀ b l, lk σ.heap b = some (true, l) → ∃ ds : List D, l = ds.map A.d
 nilb : ∀ b fr l, β b = some none → lk σ.heap b = some (fr, l) → l = []
 inj : ∀ b b' k, β b = some (some k) → β b' = some (some k) → b = b'
 imm : ∀ k o, S k o → k < w.heap.size
 old : ∀ k o, S k o → k < w0.heap.size → S0 k o ∨ M.at k
 ext : Ext w0 M w
 stay : ∀ b, 1000000 ≤ b → b < 2000000 → lk σ.heap b ≠ none → β b = M b
 small : σ.n ≤ 1000000
 src : ∀ b k, β b = some (some k) → w0.heap.size ≤ k ∨ M.at k
theorem Rel.get {G : bj} {w0 : World} {M : Own} {S0 : Imm} {σ : St} {a : Act} {w : World} {β : Own} {S : Imm} (h : Rel G w0 M S0 σ a w β S) (t : Nat) : AR β S w (σ.get t) (a.tmps.getD t undef) := by
 unfold St.get
 cases hl : lk σ.env t with
 | none => simp [AR, DR]
 | some x => exact h.env t x hl
theorem Rel.ev {G : bj} {w0 : World} {M : Own} {S0 : Imm} {σ : St} {a : Act} {w : World} {β : Own} {S : Imm} (h : Rel G w0 M S0 σ a w β S) (x : Operand) : AR β S w (σ.ev G x) (a.eval x) := by
 cases x with
 | tmp t => exact h.get t
 | const v => exact agk v
 | global g => simp only [St.ev, AR, Act.eval]; exact ⟨g, 0, rfl, h.glob g⟩
 | func f => simp only [St.ev, AR, DR, Act.eval]
theorem Rel.hrd {G : bj} {w0 : World} {M : Own} {S0 : Imm} {σ : St} {a : Act} {w : World} {β : Own} {S : Imm} (h : Rel G w0 M S0 σ a w β S) : rm β S w σ.hp := fun b k fr l hb hl => h.rd b k fr l hb hl
theorem Rel.put {G : bj} {w0 : World} {M : Own} {S0 : Imm} {σ : St} {a : Act} {w : World} {β : Own} {S : Imm} (h : Rel G w0 M S0 σ a w β S) {dst : Option Nat} {r : A} {v : Value} (hr : AR β S w r v) (hd : ∀ d, dst = some d → d < σ.n) :
  Rel G w0 M S0 (σ.put dst r) (a.put dst v) w β S := by
 cases dst with
 | none => exact h
 | some d =>
  refine { h with defers := ?_, size := ?_, env := ?_ }
  ·exact h.defers
  ·simpa [Act.put, St.put] using h.size
  ·intro t x hx
   simp only [St.put, lk] at hx
   have hdn := hd d rfl
   rw [← h.size] at hdn
   simp only [Act.put]
   split at hx
   ·rename_i e
    subst e
    cases hx
    simpa [Array.getElem?_setIfInBounds, hdn] using hr
   ·rename_i e
    have := h.env t x hx
    simpa [Array.getElem?_setIfInBounds, e] using this
end Go.Ev

namespace Go.Ev
open Go
def Own.set (β : Own) (d k : Nat) : Own := fun b => if b = d then some (some k) else β b
def Own.gh (β : Own) (d : Nat) : Own := fun b => if b = d then some none else β b
section
variable {P : Program} {G : bj} {T : Tab} {w0 : World} {M : Own} {S0 : Imm} {σ : St} {a : Act} {w w' : World} {β : Own} {S : Imm}
theorem cell_of_heap {b o : Nat} (h : w'.heap[b]? = w.heap[b]?) : w'.cell? ⟨b, o, none⟩ = w.cell? ⟨b, o, none⟩ := by
 simp only [World.cell?, h]
def px (w w' : World) : Prop := ∀ k, k < w.heap.size → w'.heap[k]? = w.heap[k]?
theorem px.keeps (h : px w w') (hS : ∀ k o, S k o → k < w.heap.size) : lr S w w' := fun b _ hb => cell_of_heap (h b (hS _ _ hb))
theorem lt_of_heap {k : Nat} {o : Obj} (h : w.heap[k]? = some o) : k < w.heap.size := by
 rcases Nat.lt_or_ge k w.heap.size with h' | h'
 ·exact h'
 ·simp [Array.getElem?_eq_none h'] at h
theorem px.ln (h : px w w') : kd w w' := fun k C Tc fr hk => ⟨C, by rw [h k (lt_of_heap hk)]; exact hk, rfl⟩
theorem Ext.olds (h : Ext w0 M w) (ho : px w w') (hos : w'.os = w.os) (ht : w'.tape = w.tape) (hout : w'.output = w.output) (hs : w.heap.size ≤ w'.heap.size) : Ext w0 M w' where
 os := hos.trans h.os
 tape := ht.trans h.tape
 output := hout.trans h.output
 size := Nat.le_trans h.size hs
 block := fun k hk hM => (ho k (Nat.lt_of_lt_of_le hk h.size)).trans (h.block k hk hM)
 ln := fun k C Tc fr hk => by
  obtain ⟨C', h1, h2⟩ := h.ln k C Tc fr hk
  exact ⟨C', by rw [ho k (lt_of_heap h1)]; exact h1, h2⟩
theorem Rd.mono {β' : Own} {S' : Imm} {k : Nat} {l : List A} (hβ : β.le β') (hS : S.le S') (hw : lr S w w') (hs : kd w w') (hk : w'.heap[k]? = w.heap[k]?) (h : Rd β S w k l) : Rd β' S' w' k l := by
 obtain ⟨C, Tc, hC, hl, hc⟩ := h
 refine ⟨C, Tc, hk.trans hC, hl, fun j x hx => ?_⟩
 obtain ⟨u, hu, hR⟩ := hc j x hx
 exact ⟨u, hu, AR.mono hβ hS hw hs hR⟩
theorem Rel.olds {S' : Imm} (h : Rel G w0 M S0 σ a w β S) (ho : px w w') (hos : w'.os = w.os) (ht : w'.tape = w.tape) (hout : w'.output = w.output) (hs : w.heap.size ≤ w'.heap.size)
  (hS : S.le S') (hS' : ∀ k o, S' k o → S k o ∨ (w.heap.size ≤ k ∧ k < w'.heap.size)) : Rel G w0 M S0 σ a w' β S' := by
 have hk := ho.keeps h.imm
 have hsh := ho.ln
 have hlt : ∀ b k, β b = some (some k) → k < w.heap.size := by
  intro b k hb
  have := h.keys b (by rw [hb]; simp)
  cases hl : lk σ.heap b with
  | none => exact absurd hl this
  | some x =>
   obtain ⟨fr, l⟩ := x
   obtain ⟨C, Tc, hC, _⟩ := h.rd b k fr l hb hl
   exact lt_of_heap hC
 refine { h with env := ?_, glob := ?_, rd := ?_, live := ?_, froz := ?_, imm := ?_, old := ?_, ext := ?_ }
 ·exact fun t x hx => AR.mono (fun _ _ h => h) hS hk hsh (h.env t x hx)
 ·exact fun g => DRL.mono hS hk (h.glob g)
 ·exact fun b k fr l hb hl => Rd.mono (fun _ _ h => h) hS hk hsh (ho k (hlt b k hb)) (h.rd b k fr l hb hl)
 ·intro b k l hb hl
  obtain ⟨h1, h2⟩ := h.live b k l hb hl
  refine ⟨fun o hS'' => ?_, h2⟩
  rcases hS' _ _ hS'' with h3 | h3
  ·exact h1 _ h3
  ·have := hlt b k hb; omega
 ·intro b k l hb hl
  obtain ⟨ds, h1, h2⟩ := h.froz b k l hb hl
  exact ⟨ds, h1, DRL.mono hS hk h2⟩
 ·intro k o hk'
  rcases hS' _ _ hk' with h3 | h3
  ·have := h.imm _ _ h3; omega
  ·exact h3.2
 ·intro k o hk' hlt0
  rcases hS' _ _ hk' with h3 | h3
  ·exact h.old _ _ h3 hlt0
  ·have := h.ext.size; omega
 ·exact h.ext.olds ho hos ht hout hs
theorem Rel.push (h : Rel G w0 M S0 σ a w β S) {d : Nat} (hd : lk σ.heap d = none) (hdK : d < 1000000) {C : Array Value} {Tc : TypeId} (hw : w'.heap = w.heap.push (.cells C Tc)) (hos : w'.os = w.os) (ht : w'.tape = w.tape) (hout : w'.output = w.output)
  {l : List A} (hl : l.length ≤ C.size) (hc : ∀ (j : Nat) (x : A), l[j]? = some x → ∃ u, C[j]? = some u ∧ AR β S w x u) : Rel G w0 M S0 (σ.new d l) a w' (β.set d w.heap.size) S ∧ β.le (β.set d w.heap.size) ∧ lr S w w' ∧ kd w w' := by
 have ho : px w w' := fun k hk => by rw [hw, Array.getElem?_push, if_neg (by omega)]
 have hs : w.heap.size ≤ w'.heap.size := by rw [hw]; simp
 have hk := ho.keeps h.imm
 have hsh := ho.ln
 have hβd : β d = none := by
  cases hb : β d with
  | none => rfl
  | some k => exact absurd hd (h.keys d (by rw [hb]; simp))
 have hle : β.le (β.set d w.heap.size) := fun b k hb => by
  unfold Own.set
  rw [if_neg]
  ·exact hb
  ·rintro rfl; rw [hβd] at hb; cases hb
 have hlt : ∀ b k, β b = some (some k) → k < w.heap.size := by
  intro b k hb
  have := h.keys b (by rw [hb]; simp)
  cases hl : lk σ.heap b with
  | none => exact absurd hl this
  | some x =>
   obtain ⟨fr, l⟩ := x
   obtain ⟨C, Tc, hC, _⟩ := h.rd b k fr l hb hl
   exact lt_of_heap hC
 have hnew : w'.heap[w.heap.size]? = some (.cells C Tc (0, 0)) := by rw [hw]; simp
 refine ⟨?_, hle, hk, hsh⟩
 refine { h with env := ?_, glob := ?_, keys := ?_, rd := ?_, live := ?_, froz := ?_, fd := ?_, nilb := ?_, inj := ?_, imm := ?_, ext := ?_, stay := ?_, src := ?_ }
 ·exact fun t x hx => AR.mono hle (fun _ _ h => h) hk hsh (h.env t x hx)
 ·exact fun g => DRL.mono (fun _ _ h => h) hk (h.glob g)
 ·intro b hb
  simp only [St.new, lk]
  split
  ·simp
  ·rename_i hne
   have : β b ≠ none := by
    have := hb; unfold Own.set at this; rwa [if_neg (fun e => hne e.symm)] at this
   exact h.keys b this
 ·intro b k fr l' hb hl'
  simp only [St.new, lk] at hl'
  unfold Own.set at hb
  split at hl'
  ·rename_i e
   subst e
   cases hl'
   simp only [if_true, Option.some.injEq] at hb
   subst hb
   refine ⟨C, Tc, hnew, hl, fun j x hx => ?_⟩
   obtain ⟨u, hu, hR⟩ := hc j x hx
   exact ⟨u, hu, AR.mono hle (fun _ _ h => h) hk hsh hR⟩
  ·rename_i hne
   rw [if_neg (fun e => hne e.symm)] at hb
   exact Rd.mono hle (fun _ _ h => h) hk hsh (ho k (hlt b k hb)) (h.rd b k fr l' hb hl')
 ·intro b k l' hb hl'
  simp only [St.new, lk] at hl'
  unfold Own.set at hb
  split at hl'
  ·rename_i e
   subst e
   simp only [if_true, Option.some.injEq] at hb
   subst hb
   exact ⟨fun o hS => by have := h.imm _ _ hS; omega, .inl h.ext.size⟩
  ·rename_i hne
   rw [if_neg (fun e => hne e.symm)] at hb
   exact h.live b k l' hb hl'
 ·intro b k l' hb hl'
  simp only [St.new, lk] at hl'
  unfold Own.set at hb
  split at hl'
  ·cases hl'
  ·rename_i hne
   rw [if_neg (fun e => hne e.symm)] at hb
   obtain ⟨ds, h1, h2⟩ := h.froz b k l' hb hl'
   exact ⟨ds, h1, DRL.mono (fun _ _ h => h) hk h2⟩
 ·intro b l' hl'
  simp only [St.new, lk] at hl'
  split at hl'
  ·cases hl'
  ·exact h.fd b l' hl'
 ·intro b fr l' hb hl'
  simp only [St.new, lk] at hl'
  unfold Own.set at hb
  split at hl'
  ·rename_i e
   subst e
   simp at hb
  ·rename_i hne
   rw [if_neg (fun e => hne e.symm)] at hb
   exact h.nilb b fr l' hb hl'
 ·intro b b' k hb hb'
  unfold Own.set at hb hb'
  split at hb <;> split at hb'
  ·simp_all
  ·cases hb
   have := hlt _ _ hb'; omega
  ·cases hb'
   have := hlt _ _ hb; omega
  ·exact h.inj _ _ _ hb hb'
 ·intro k o hk'
  have := h.imm _ _ hk'
  omega
 ·exact h.ext.olds ho hos ht hout hs
 ·intro b h1 h2 hb
  simp only [St.new, lk] at hb
  split at hb
  ·omega
  ·rename_i hne
   unfold Own.set
   rw [if_neg (fun e => hne e.symm)]
   exact h.stay b h1 h2 hb
 ·intro b k hb
  unfold Own.set at hb
  split at hb
  ·cases hb; exact .inl h.ext.size
  ·exact h.src b k hb
theorem Rel.ghost (h : Rel G w0 M S0 σ a w β S) {d : Nat} (hd : lk σ.heap d = none) (hdK : d < 1000000) : Rel G w0 M S0 (σ.new d []) a w (β.gh d) S := by
 have hβd : β d = none := by
  cases hb : β d with
  | none => rfl
  | some k => exact absurd hd (h.keys d (by rw [hb]; simp))
 have hle : β.le (β.gh d) := fun b k hb => by
  unfold Own.gh
  rw [if_neg]
  ·exact hb
  ·rintro rfl; rw [hβd] at hb; cases hb
 have hk : lr S w w := fun _ _ _ => rfl
 have hsh : kd w w := fun k C Tc fr hk => ⟨C, hk, rfl⟩
 have hon : ∀ b k, (β.gh d) b = some (some k) → d ≠ b ∧ β b = some (some k) := by
  intro b k hb
  unfold Own.gh at hb
  split at hb
  ·cases hb
  ·rename_i e; exact ⟨fun e' => e e'.symm, hb⟩
 refine { h with env := ?_, keys := ?_, rd := ?_, live := ?_, froz := ?_, fd := ?_, nilb := ?_, inj := ?_, stay := ?_, src := fun b k hb => h.src b k (hon b k hb).2 }
 ·exact fun t x hx => AR.mono hle (fun _ _ h => h) hk hsh (h.env t x hx)
 ·intro b hb
  simp only [St.new, lk]
  split
  ·simp
  ·rename_i hne
   have : β b ≠ none := by
    have := hb; unfold Own.gh at this; rwa [if_neg (fun e => hne e.symm)] at this
   exact h.keys b this
 ·intro b k fr l' hb hl'
  obtain ⟨hne, hb⟩ := hon b k hb
  simp only [St.new, lk, if_neg hne] at hl'
  exact Rd.mono hle (fun _ _ h => h) hk hsh rfl (h.rd b k fr l' hb hl')
 ·intro b k l' hb hl'
  obtain ⟨hne, hb⟩ := hon b k hb
  simp only [St.new, lk, if_neg hne] at hl'
  exact h.live b k l' hb hl'
 ·intro b k l' hb hl'
  obtain ⟨hne, hb⟩ := hon b k hb
  simp only [St.new, lk, if_neg hne] at hl'
  exact h.froz b k l' hb hl'
 ·intro b l' hl'
  simp only [St.new, lk] at hl'
  split at hl'
  ·cases hl'
  ·exact h.fd b l' hl'
 ·intro b fr l' hb hl'
  simp only [St.new, lk] at hl'
  split at hl'
  ·cases hl'; rfl
  ·rename_i hne
   unfold Own.gh at hb
   rw [if_neg (fun e => hne e.symm)] at hb
   exact h.nilb b fr l' hb hl'
 ·intro b b' k hb hb'
  exact h.inj b b' k (hon b k hb).2 (hon b' k hb').2
 ·intro b h1 h2 hb
  simp only [St.new, lk] at hb
  split at hb
  ·omega
  ·rename_i hne
   unfold Own.gh
   rw [if_neg (fun e => hne e.symm)]
   exact h.stay b h1 h2 hb
theorem yx {z : List A} {vz : List Value} (h : ARs β S w z vz) : ∀ n, ARs β S w (ij n z) (ij n vz)
 | 0 => by simp [ij, ARs]
 | n + 1 => by
  have ih := yx h n
  have e1 : ij (n + 1) z = z ++ ij n z := by simp [ij, List.replicate_succ]
  have e2 : ij (n + 1) vz = vz ++ ij n vz := by simp [ij, List.replicate_succ]
  rw [e1, e2]
  have l1 := c7 h
  have l2 := c7 ih
  refine pw (by simp [l1, l2]) fun j x u hx hu => ?_
  rw [List.getElem?_append] at hx hu
  rw [l1] at hu
  split at hx
  ·rename_i hlt
   rw [if_pos hlt] at hu
   obtain ⟨u', hu', hR⟩ := gm h hx
   rw [hu] at hu'; cases hu'; exact hR
  ·rename_i hlt
   rw [if_neg hlt] at hu
   obtain ⟨u', hu', hR⟩ := gm ih hx
   rw [hu] at hu'; cases hu'; exact hR
theorem vv {α : Type} (z : List α) : ∀ n : Nat, (ij n z).length = n * z.length
 | 0 => by simp [ij]
 | n + 1 => by
  have e1 : ij (n + 1) z = z ++ ij n z := by simp [ij, List.replicate_succ]
  rw [e1, List.length_append, vv z n, Nat.succ_mul, Nat.add_comm]
theorem yg (z : Array Value) (hz : z.size ≠ 0) : ∀ n : Nat, ((Array.range (n * z.size)).map (fun i => z[i % z.size]!)).toList = ij n z.toList := by
 intro n
 refine List.ext_getElem? fun i => ?_
 have hlen : (ij n z.toList).length = n * z.size := by simp [vv]
 by_cases hi : i < n * z.size
 ·have hm : i % z.size < z.size := Nat.mod_lt _ (by omega)
  have e1 : ((Array.range (n * z.size)).map (fun i => z[i % z.size]!)).toList[i]? = some (z[i % z.size]) := by
   simp [hi, hm]
  rw [e1]
  clear e1 hlen
  induction n generalizing i with
  | zero => simp at hi
  | succ n ih =>
   have e2 : ij (n + 1) z.toList = z.toList ++ ij n z.toList := by simp [ij, List.replicate_succ]
   rw [e2, List.getElem?_append]
   split
   ·rename_i h1
    simp at h1
    simp [Nat.mod_eq_of_lt h1, h1]
   ·rename_i h1
    simp at h1
    have h2 : i - z.size < n * z.size := by rw [Nat.succ_mul] at hi; omega
    have h3 := ih (i - z.size) h2 (Nat.mod_lt _ (by omega))
    simp only [Array.length_toList]
    rw [← h3]
    congr 1
    have : i % z.size = (i - z.size) % z.size := Nat.mod_eq_sub_mod h1
    simp only [this]
 ·rw [List.getElem?_eq_none (by simp; omega), List.getElem?_eq_none (by omega)]
theorem yv {l : List A} {C : Array Value} (h : ARs β S w l C.toList) : l.length ≤ C.size ∧ ∀ (j : Nat) (x : A), l[j]? = some x → ∃ u, C[j]? = some u ∧ AR β S w x u :=
 ⟨by have := c7 h; simp at this; omega, fun j x hx => by
  obtain ⟨u, hu, hR⟩ := gm h hx
  exact ⟨u, by simpa using hu, hR⟩⟩
theorem wrap_i64 {n : Int} (h : 0 ≤ n) (h' : n < 9223372036854775808) : IntKind.i64.wrap n = n := by
 have e : IntKind.i64.wrap n = if (true && decide (n % 2 ^ 64 ≥ 2 ^ 63)) = true then n % 2 ^ 64 - 2 ^ 64 else n % 2 ^ 64 := rfl
 rw [e, if_neg (by simp; omega)]
 omega
theorem wq {t e : Nat} {i : TypeInfo} {z : Value} {l : Int} {k k' : IntKind} {s : Nat} (hu : P.underlying t = some (.slice e)) (hi : (typeInfo e).run P w = .ok i w) (hs : (sizeOf e).run P w = .ok s w) (hz : (zeroValue e).run P w = .ok z w)
  (hb : i.bytes ≠ 0) (h0 : 0 ≤ l) (h1 : i.bytes * l ≤ 140737488355328) (hzs : z.cells.size = s) :
  (Instr.makeSlice t (.int k l) (.int k' l)).run P w = .ok (.slice (some ⟨w.heap.size, 0, none⟩) l.toNat l.toNat) (w.alloc (.cells ((Array.range (l.toNat * z.cells.size)).map (fun i => z.cells[i % z.cells.size]!)) e)) := by
 have hlt : l ≤ 140737488355328 := by
  have h2 : (1 : Int) * l ≤ i.bytes * l := Int.mul_le_mul_of_nonneg_right (by omega) h0
  omega
 have hw := wrap_i64 h0 (by omega)
 have hg : (decide (l < 0) || decide ((i.bytes : Int) * l > 2 ^ 48)) = false := by
  simp only [Bool.or_eq_false_iff, decide_eq_false_iff_not]; omega
 have hg2 : ¬ (((decide (l < 0) || decide ((i.bytes : Int) * l > 2 ^ 48)) = true ∨ l < 0) ∨ l > l) := by
  rw [hg]; simp; omega
 subst hzs
 simp only [Instr.makeSlice, Sem.run_bind, run_underlying hu, Result.andThen_ok, asInt, asIntOf, pure_bind, Sem.run_pure, hi, hw]
 rw [if_neg (by simpa using hg2)]
 simp only [Sem.run_bind, run_askRoom, hs, Result.andThen_ok]
 by_cases hn : l.toNat * z.cells.size = 0
 ·rw [if_pos hn, hn]
  have e0 : ∀ f : Nat → Value, (Array.range 0).map f = #[] := fun f => by simp
  simp [newRow, e0]
 ·rw [if_neg hn]
  simp [hz, newRow]
theorem tx {t e : Nat} {z : Value} {s len : Nat} {parts : Array (Nat × Value)} {vc : Array Value} (hu : P.underlying t = some (.slice e)) (hs : (sizeOf e).run P w = .ok s w) (hz : (zeroValue e).run P w = .ok z w)
  (hl : len * s ≤ 4096) (hzs : z.cells.size = s) (hf : Instr.fill (fun i => some (i * s, s)) ((Array.range (len * z.cells.size)).map (fun i => z.cells[i % z.cells.size]!)) parts.toList = some vc) :
  (Instr.buildSlice t len parts).run P w = .ok (.slice (some ⟨w.heap.size, 0, none⟩) len len) (w.alloc (.cells vc e)) := by
 subst hzs
 simp only [Instr.buildSlice, Sem.run_bind, run_underlying hu, Result.andThen_ok, hs]
 rw [if_neg (by omega)]
 by_cases hn : len * z.cells.size = 0
 ·rw [hn] at hf
  have e0 : ((Array.range 0).map (fun i => z.cells[i % z.cells.size]!)) = #[] := by simp
  rw [e0] at hf
  rw [if_pos hn, hn]
  have e1 : ∀ f : Nat → Value, (Array.range 0).map f = #[] := fun f => by simp
  simp only [Sem.run_pure, Result.andThen_ok, Sem.run_bind, e1, hf]
  simp [newRow]
 ·rw [if_neg hn]
  simp [hz, newRow, hf]
theorem aic {s : Sem Value} {v : Value} (h : s.run P w = .ok v w') : (do pure (.value (← s)) : Sem Next).run P w = .ok (.value v) w' := by
 simp [h]
theorem heap_alloc (w : World) (o : Obj) : (w.alloc o).heap[w.heap.size]? = some o := by
 show (w.heap.push o)[w.heap.size]? = some o
 simp
theorem xu {f : Nat → Option (Nat × Nat)} : ∀ (ps : List (Nat × Value)) (cs vc : Array Value), Instr.fill f cs ps = some vc → vc.size = cs.size
 | [], cs, vc, h' => by simp [Instr.fill] at h'; rw [h']
 | p :: ps, cs, vc, h' => by
  obtain ⟨i, v⟩ := p
  simp only [Instr.fill] at h'
  split at h'
  ·cases h'
  ·rename_i off size _
   split at h'
   ·cases h'
   ·rw [xu ps _ _ h']
    have e2 : ∀ (us : List (Value × Nat)) (cs : Array Value), (us.foldl (fun (cs : Array Value) x => cs.setIfInBounds (off + x.2) x.1) cs).size = cs.size := by
     intro us
     induction us with
     | nil => intro cs; rfl
     | cons u us ih => intro cs; simp [ih]
    rw [← Array.foldl_toList]
    exact e2 _ _
theorem abg (hT : bw P T) (h : Rel G w0 M S0 σ a w β S) {o : Oper} {d : Nat} (hd : lk σ.heap d = none) (hdK : d < 1000000) {K : A → List A → Prop} (hk : l4 T (σ.ev G) d o.op K) :
  ∃ r l v w' β', K r l ∧ (execOp a.eval o).run P w = .ok (.value v) w' ∧ Rel G w0 M S0 (σ.new d l) a w' β' S ∧ AR β' S w' r v := by
 obtain ⟨dst, op, type, pos, after, guard⟩ := o
 simp only at hk
 unfold l4 at hk
 split at hk
 ·-- alloc
  rename_i e
  split at hk
  ·rename_i y hy
   obtain ⟨hz0, hK⟩ := hk
   have hz : y.zero ≠ [] := by
    intro e; rw [e] at hz0; simp at hz0
   obtain ⟨z, hrz, hzc⟩ := l6 hT hy w hz
   have hAR : ARs β S w (k9 y.zero) z.cells.toList := by rw [hzc]; exact mb _
   obtain ⟨hl, hc⟩ := yv hAR
   obtain ⟨h1, h2, h3, h4⟩ := h.push (w' := w.alloc (.cells z.cells e)) hd hdK rfl rfl rfl rfl hl hc
   refine ⟨_, _, .pointer (some ⟨w.heap.size, 0, none⟩), _, _, hK, ?_, h1, ?_⟩
   ·simp [execOp, Instr.alloc, hrz, newVar, newRow]
   ·unfold Ty.to
    cases y.tag
    ·simp only [cond_false, AR]; exact ⟨w.heap.size, by simp [Own.set], rfl⟩
    ·simp only [cond_true, AR]
     refine ⟨w.heap.size, by simp [Own.set], rfl, z.cells, (0, 0), by show (w.heap.push (.cells z.cells e))[w.heap.size]? = _; rw [Array.getElem?_push_size], ?_⟩
     have := c7 hAR
     simpa [k9] using this
  ·exact hk.elim
 ·-- box
  rename_i e x
  obtain ⟨hf, hK⟩ := hk
  have hAR := A.uz (h.ev x) hf
  obtain ⟨hl, hc⟩ := yv hAR
  obtain ⟨h1, h2, h3, h4⟩ := h.push (w' := w.alloc (.cells (a.eval x).cells e)) hd hdK rfl rfl rfl rfl hl hc
  refine ⟨_, _, .pointer (some ⟨w.heap.size, 0, none⟩), _, _, hK, ?_, h1, ?_⟩
  ·simp [execOp, Instr.box, newVar, newRow]
  ·simp only [AR]; exact ⟨w.heap.size, by simp [Own.set], rfl⟩
 ·-- makeSlice
  rename_i t l c
  obtain ⟨e, ye, hu, hye, hk⟩ := cf hT hk
  have hvl := h.ev l
  have hvc := h.ev c
  split at hk
  ·rename_i kl il kc ic e1 e2
   rw [e1] at hvl
   rw [e2] at hvc
   simp only [AR, DR] at hvl hvc
   obtain ⟨rfl, ⟨h0, hb⟩, hrow, _, rfl, hK⟩ := hk
   obtain ⟨_, hz, hzl, hb0⟩ := Ty.qg hrow
   obtain ⟨z, hrz, hzc⟩ := l6 hT hye w hz
   obtain ⟨i, hi, hib, his⟩ := ll hT hye w
   have hzs : z.cells.size = ye.size := by
    have := congrArg List.length hzc
    simpa [hzl] using this
   have hsz : ye.size ≠ 0 := by
    rw [← hzl]; intro h'; exact hz (List.length_eq_zero_iff.1 h')
   have hC := yg z.cells (by omega) il.toNat
   have hAR : ARs β S w (ij il.toNat (k9 ye.zero)) ((Array.range (il.toNat * z.cells.size)).map (fun i => z.cells[i % z.cells.size]!)).toList := by
    rw [hC, hzc]; exact yx (mb _) _
   obtain ⟨hl, hc⟩ := yv hAR
   have hrun := wq (P := P) (w := w) (k := kl) (k' := kc) hu hi (b7 hT hye w) hrz (by omega) h0 (by rw [hib]; exact hb) hzs
   obtain ⟨h1, h2, h3, h4⟩ := h.push (w' := w.alloc (.cells ((Array.range (il.toNat * z.cells.size)).map (fun i => z.cells[i % z.cells.size]!)) e)) hd hdK rfl rfl rfl rfl hl hc
   refine ⟨_, _, .slice (some ⟨w.heap.size, 0, none⟩) il.toNat il.toNat, _, _, hK, ?_, h1, ?_⟩
   ·simp only [execOp, hvl, hvc]; exact aic hrun
   ·simp only [AR]
    refine .inl ⟨w.heap.size, by simp [Own.set], il.toNat, ((Array.range (il.toNat * z.cells.size)).map (fun i => z.cells[i % z.cells.size]!)), e, (0, 0), rfl, Nat.le_refl _, heap_alloc _ _, ?_⟩
    simp [hzs]
  ·exact hk.elim
 ·-- buildSlice
  rename_i t len parts
  obtain ⟨e, ye, hu, hye, hrow, hk⟩ := cf hT hk
  simp only [Bool.and_eq_true, decide_eq_true_eq] at hrow
  obtain ⟨hrow, hlen⟩ := hrow
  obtain ⟨_, hz, hzl, _⟩ := Ty.qg hrow
  obtain ⟨z, hrz, hzc⟩ := l6 hT hye w hz
  have hzs : z.cells.size = ye.size := by
   have := congrArg List.length hzc
   simpa [hzl] using this
  have hsz : ye.size ≠ 0 := by
   rw [← hzl]; intro h'; exact hz (List.length_eq_zero_iff.1 h')
  have hC := yg z.cells (by omega) len
  have hAR : ARs β S w (ij len (k9 ye.zero)) ((Array.range (len * z.cells.size)).map (fun i => z.cells[i % z.cells.size]!)).toList := by
   rw [hC, hzc]; exact yx (mb _) _
  have hp : ka β S w (parts.toList.map fun p => (p.1, σ.ev G p.2)) (parts.map fun p => (p.1, a.eval p.2)).toList := by
   simpa using ka.map (fun x => h.ev x) parts.toList
  obtain ⟨c, vc, hK, hR, hfill⟩ := kz hk hp hAR
  have hrun := tx (P := P) (w := w) (parts := parts.map fun p => (p.1, a.eval p.2)) hu (b7 hT hye w) hrz hlen hzs hfill
  obtain ⟨hl, hc⟩ := yv hR
  obtain ⟨h1, h2, h3, h4⟩ := h.push (w' := w.alloc (.cells vc e)) hd hdK rfl rfl rfl rfl hl hc
  have hsize : vc.size = len * ye.size := by
   rw [xu _ _ _ hfill]
   simp [hzs]
  refine ⟨_, _, .slice (some ⟨w.heap.size, 0, none⟩) len len, _, _, hK, ?_, h1, ?_⟩
  ·simp only [execOp]; exact aic hrun
  ·simp only [AR]
   exact .inl ⟨w.heap.size, by simp [Own.set], len, vc, e, (0, 0), rfl, Nat.le_refl _, heap_alloc _ _, by omega⟩
 ·-- x[:0:0]
  rename_i t x lo hi m
  split at hk
  ·rename_i n cells e1
   have hx := h.ev x
   rw [e1] at hx
   obtain ⟨e, ye, hu, hye, hk⟩ := cf hT hk
   split at hk
   ·rename_i hi _
    obtain ⟨kh, km, e2, e3, hK⟩ := hk
    have hvh := h.ev hi
    have hvm := h.ev m
    rw [e2] at hvh
    rw [e3] at hvm
    simp only [AR, DR] at hx hvh hvm
    obtain ⟨b, c, hx, hc, hl⟩ := hx
    refine ⟨_, _, .slice b 0 0, w, _, hK, ?_, h.ghost hd hdK, ?_⟩
    ·simp only [execOp]
     refine nf ?_
     simp [Instr.sliceAt, Instr.slice, run_underlying hu, hx, hvh, hvm, Instr.sliceBounds, run_sliceBound, b7 hT hye]
    ·simp only [AR]; exact .inr ⟨trivial, by simp [Own.gh], b, rfl⟩
   ·exact hk.elim
  ·exact hk.elim
 ·exact hk.elim
end
end Go.Ev

namespace Go.Ev
open Go
section
variable {P : Program} {G : bj} {T : Tab} {w0 : World} {M : Own} {S0 : Imm} {σ : St} {a : Act} {w w' : World} {β : Own} {S : Imm}
theorem du : ∀ (h : List (Nat × Bool × List A)) (b : Nat) (l : List A) (t : Nat), lk (tu h b l) t = if t = b then (lk h t).map (fun x => (x.1, l)) else lk h t
 | [], b, l, t => by simp [tu, lk]
 | (k, f, l0) :: h, b, l, t => by
  simp only [tu]
  by_cases hk : k = b
  ·subst hk
   rw [if_pos rfl]
   simp only [lk]
   by_cases ht : k = t
   ·subst ht; simp
   ·rw [if_neg ht, if_neg ht, if_neg (fun e => ht e.symm)]
  ·rw [if_neg hk]
   simp only [lk]
   by_cases ht : k = t
   ·subst ht; simp [hk]
   ·rw [if_neg ht, if_neg ht]; exact du h b l t
theorem Rel.write (h : Rel G w0 M S0 σ a w β S) {b k : Nat} {l l' : List A} {C C' : Array Value} {Tc : TypeId} (hb : β b = some (some k)) (hl : lk σ.heap b = some (false, l)) (hC : w.heap[k]? = some (.cells C Tc (0, 0))) (hC' : w'.heap[k]? = some (.cells C' Tc (0, 0)))
  (hsz : C'.size = C.size) (hoth : ∀ j, j ≠ k → w'.heap[j]? = w.heap[j]?) (hws : w'.heap.size = w.heap.size) (hos : w'.os = w.os) (ht : w'.tape = w.tape) (hout : w'.output = w.output)
  (hl' : l'.length ≤ C'.size) (hc : ∀ (j : Nat) (x : A), l'[j]? = some x → ∃ u, C'[j]? = some u ∧ AR β S w x u) :
  Rel G w0 M S0 (σ.wr b l') a w' β S ∧ lr S w w' ∧ kd w w' := by
 obtain ⟨hlive, hbase⟩ := h.live b k l hb hl
 have hk : lr S w w' := fun j o hS => cell_of_heap (hoth j (fun e => hlive o (e ▸ hS)))
 have hsh : kd w w' := fun j Cj Tj fr hj => by
  by_cases e : j = k
  ·subst e
   rw [hC] at hj; cases hj
   exact ⟨C', hC', hsz⟩
  ·exact ⟨Cj, by rw [hoth j e]; exact hj, rfl⟩
 have hlek : β.le β := fun _ _ h => h
 have hleS : S.le S := fun _ _ h => h
 refine ⟨?_, hk, hsh⟩
 refine { h with env := ?_, glob := ?_, keys := ?_, rd := ?_, live := ?_, froz := ?_, fd := ?_, nilb := ?_, imm := ?_, ext := ?_, stay := ?_ }
 ·exact fun t x hx => AR.mono hlek hleS hk hsh (h.env t x hx)
 ·exact fun g => DRL.mono hleS hk (h.glob g)
 ·intro b' hb'
  have := h.keys b' hb'
  simp only [St.wr, du]
  split
  ·cases hh : lk σ.heap b' with
   | none => exact absurd hh this
   | some x => simp
  ·exact this
 ·intro b' k' fr l1 hb' hl1
  simp only [St.wr, du] at hl1
  split at hl1
  ·rename_i e
   subst e
   rw [hb] at hb'; cases hb'
   rw [hl] at hl1; cases hl1
   refine ⟨C', Tc, hC', hl', fun j x hx => ?_⟩
   obtain ⟨u, hu, hR⟩ := hc j x hx
   exact ⟨u, hu, AR.mono hlek hleS hk hsh hR⟩
  ·rename_i e
   have hne : k' ≠ k := fun e' => e (h.inj b' b k' hb' (e' ▸ hb))
   exact Rd.mono hlek hleS hk hsh (hoth k' hne) (h.rd b' k' fr l1 hb' hl1)
 ·intro b' k' l1 hb' hl1
  simp only [St.wr, du] at hl1
  split at hl1
  ·rename_i e
   subst e
   rw [hb] at hb'; cases hb'
   exact ⟨hlive, hbase⟩
  ·exact h.live b' k' l1 hb' hl1
 ·intro b' k' l1 hb' hl1
  simp only [St.wr, du] at hl1
  split at hl1
  ·rename_i e
   subst e
   rw [hl] at hl1; cases hl1
  ·obtain ⟨ds, h1, h2⟩ := h.froz b' k' l1 hb' hl1
   exact ⟨ds, h1, DRL.mono hleS hk h2⟩
 ·intro b' l1 hl1
  simp only [St.wr, du] at hl1
  split at hl1
  ·rename_i e
   subst e
   rw [hl] at hl1; cases hl1
  ·exact h.fd b' l1 hl1
 ·intro b' fr l1 hb' hl1
  simp only [St.wr, du] at hl1
  split at hl1
  ·rename_i e
   subst e
   rw [hb] at hb'; cases hb'
  ·exact h.nilb b' fr l1 hb' hl1
 ·intro k' o hS
  rw [hws]; exact h.imm k' o hS
 ·refine ⟨hos.trans h.ext.os, ht.trans h.ext.tape, hout.trans h.ext.output, by rw [hws]; exact h.ext.size, fun j hj hM => ?_, fun j Cj Tj fr hj => ?_⟩
  ·have hne : j ≠ k := by
    rintro rfl
    rcases hbase with h1 | h1
    ·omega
    ·exact hM h1
   rw [hoth j hne]; exact h.ext.block j hj hM
  ·obtain ⟨C1, h1, h2⟩ := h.ext.ln j Cj Tj fr hj
   obtain ⟨C2, h3, h4⟩ := hsh j C1 Tj fr h1
   exact ⟨C2, h3, by omega⟩
 ·intro b' h1 h2 hb'
  refine h.stay b' h1 h2 fun e => hb' ?_
  simp only [St.wr, du]
  split
  ·rw [e]; rfl
  ·exact e
theorem js {k : Nat} {Tc : TypeId} : ∀ (vs : List Value) (C : Array Value) (o i : Nat) (w : World), (∀ v ∈ vs, v.oneCell' = true) → w.heap[k]? = some (.cells C Tc (0, 0)) → o + i + vs.length ≤ C.size →
  ∃ w' C', (storeCells ⟨k, o, none⟩ vs i).run P w = .ok () w' ∧ w'.heap[k]? = some (.cells C' Tc (0, 0)) ∧ C'.toList = setAt C.toList (o + i) vs ∧ (∀ j, j ≠ k → w'.heap[j]? = w.heap[j]?) ∧ w'.heap.size = w.heap.size ∧ w'.os = w.os ∧ w'.tape = w.tape ∧ w'.output = w.output
 | [], C, o, i, w, _, hC, _ => ⟨w, C, by simp [storeCells], hC, by simp [setAt], fun _ _ => rfl, rfl, rfl, rfl, rfl⟩
 | v :: vs, C, o, i, w, hv, hC, hl => by
  simp only [List.length_cons] at hl
  have hcell : ∃ u, w.cell? ⟨k, o + i, none⟩ = some u := by
   rw [cp hC]
   exact ⟨C[o + i]'(by omega), by simp [show o + i < C.size by omega]⟩
  obtain ⟨u, hu⟩ := hcell
  have hfz : w.frozen? ⟨k, o + i, none⟩ = false := by simp [World.frozen?, hC]
  have hC1 : (w.setCell ⟨k, o + i, none⟩ v).heap[k]? = some (.cells (C.setIfInBounds (o + i) v) Tc (0, 0)) := by
   simp [World.setCell, Array.getElem?_modify, hC]
  obtain ⟨w', C', h1, h2, h3, h4, h5, h6, h7, h8⟩ := js vs (C.setIfInBounds (o + i) v) o (i + 1) (w.setCell ⟨k, o + i, none⟩ v) (fun x hx => hv x (by simp [hx])) hC1 (by simp; omega)
  refine ⟨w', C', ?_, h2, ?_, fun j hj => ?_, ?_, h6, h7, h8⟩
  ·simp only [storeCells, Sem.run_bind, dh]
   rw [run_store P w _ v .plain (hv v (by simp))]
   simp only [hu, hfz, Result.andThen_ok]
   exact h1
  ·rw [h3]
   simp [setAt, Nat.add_assoc]
  ·rw [h4 j hj]
   simp only [World.setCell, Array.getElem?_modify]
   rw [if_neg (fun e => hj e.symm)]
  ·rw [h5]; simp
theorem A.aeu {x : A} {v : Value} (h : AR β S w x v) (hx : x.one = true) : v.oneCell' = true := by
 cases x with
 | d y =>
  cases y with
  | any => simp [A.one] at hx
  | agg _ => simp [A.one] at hx
  | tup _ => simp [A.one] at hx
  | fnd _ _ => simp [A.one] at hx
  | ptrd c => simp only [AR, DR] at h; obtain ⟨k, o, rfl, _⟩ := h; rfl
  | raw u => simp only [AR, DR] at h; subst h; simpa [A.one] using hx
  | slice n l => simp only [AR, DR] at h; obtain ⟨a, c, rfl, _⟩ := h; rfl
  | _ => simp only [AR, DR] at h; subst h; rfl
 | ptr b o => simp only [AR] at h; obtain ⟨k, _, rfl⟩ := h; rfl
 | tptr b t n => simp only [AR] at h; obtain ⟨k, _, rfl, _⟩ := h; rfl
 | town b n e => simp only [AR] at h; obtain ⟨k, _, c, C, fr, rfl, _⟩ := h; rfl
 | elem c => simp only [AR] at h; obtain ⟨k, o, rfl, _⟩ := h; rfl
 | own b o n sz => simp only [AR] at h; rcases h with ⟨k, _, c, C, T, fr, rfl, _⟩ | ⟨_, _, a, rfl⟩ <;> rfl
 | agg l => simp [A.one] at hx
 | tup l => simp [A.one] at hx
 | fn f l => simp [A.one] at hx
theorem abx (hT : bw P T) (h : Rel G w0 M S0 σ a w β S) {t : Nat} {ad x : Operand} {K : A → St → Prop} (hk : ma T G σ none (.store t ad x) K) :
  ∃ r σ' w', K r σ' ∧ (Instr.storeAt t (a.eval ad) (a.eval x)).run P w = .ok () w' ∧ Rel G w0 M S0 σ' a w' β S ∧ r = .d .any ∧ σ'.n = σ.n := by
 simp only [ma] at hk
 have had := h.ev ad
 have hx := h.ev x
 split at hk
 ·rename_i b o e1
  rw [e1] at had
  simp only [AR] at had
  obtain ⟨k, hb, hv⟩ := had
  split at hk
  ·rename_i l y hl hy
   obtain ⟨hf, hlen, hone0, ho, _, rfl, hK⟩ := hk
   have hone := List.all_eq_true.1 hone0
   obtain ⟨C, Tc, hC, hlC, hcell⟩ := h.rd b k _ _ hb hl
   have hAR := A.uz hx hf
   have e2 := c7 hAR
   obtain ⟨w', C', h1, h2, h3, h4, h5, h6, h7, h8⟩ := js (P := P) (k := k) (Tc := Tc) (a.eval x).cells.toList C o 0 w (fun v hv => by
    obtain ⟨j, hj⟩ := List.getElem?_of_mem hv
    have : j < (σ.ev G x).cells.length := by
     have := (List.getElem?_eq_some_iff.1 hj).1; omega
    obtain ⟨u, hu, hR⟩ := gm hAR (j := j) (x := (σ.ev G x).cells[j]) (by simp [this])
    rw [hj] at hu; cases hu
    exact A.aeu hR (hone _ (List.getElem_mem _))) hC (by omega)
   have hsz : C'.size = C.size := by
    have := congrArg List.length h3
    simpa [iu] using this
   obtain ⟨h9, _, _⟩ := h.write (l' := setAt l o (σ.ev G x).cells) hb hl hC h2 hsz h4 h5 h6 h7 h8 (by simp [iu]; omega) (fun j z hj => by
    rw [getElem?_setAt _ _ _ _ (by omega)] at hj
    have hC'j : C'[j]? = (setAt C.toList o (a.eval x).cells.toList)[j]? := by
     have : C'[j]? = C'.toList[j]? := by simp
     rw [this, h3]; rfl
    rw [hC'j, getElem?_setAt _ _ _ _ (by simp at e2 ⊢; omega)]
    split at hj
    ·rename_i hc
     rw [if_pos (by omega)]
     exact gm hAR hj
    ·rename_i hc
     rw [if_neg (by omega)]
     obtain ⟨u, hu, hR⟩ := hcell j z hj
     exact ⟨u, by simpa using hu, hR⟩)
   refine ⟨_, _, w', hK, ?_, h9, rfl, rfl⟩
   rw [hv]
   simp only [Instr.storeAt, Instr.sureAddr, pure_bind, storeVar, Sem.run_bind, b7 hT hy, Result.andThen_ok]
   rw [if_neg (by simp at e2 ⊢; omega)]
   exact h1
  ·exact hk.elim
 ·exact hk.elim
mutual
theorem tz {β' : Own} {b : Nat} (hβ : ∀ c, c ≠ b → β' c = β c) : ∀ {x : A} {v : Value}, AR β S w x v → AR β' S w (x.kill b) v
 | .d x, v, h => by simp only [A.kill, AR] at h ⊢; exact h
 | .elem x, v, h => by simp only [A.kill, AR] at h ⊢; exact h
 | .ptr c o, v, h => by
  simp only [A.kill]
  split
  ·simp only [AR, DR]
  ·rename_i e
   simp only [AR, hβ c e] at h ⊢; exact h
 | .tptr c t n, v, h => by
  simp only [A.kill]
  split
  ·simp only [AR, DR]
  ·rename_i e
   simp only [AR, hβ c e] at h ⊢; exact h
 | .town c n e, v, h => by
  simp only [A.kill]
  split
  ·simp only [AR, DR]
  ·rename_i e
   simp only [AR, hβ c e] at h ⊢; exact h
 | .own c o n sz, v, h => by
  simp only [A.kill]
  split
  ·simp only [AR, DR]
  ·rename_i e
   simp only [AR, hβ c e] at h ⊢; exact h
 | .agg l, v, h => by
  simp only [A.kill, AR] at h ⊢
  obtain ⟨vs, rfl, h⟩ := h
  exact ⟨vs, rfl, ql hβ h⟩
 | .tup l, v, h => by
  simp only [A.kill, AR] at h ⊢
  obtain ⟨vs, rfl, h⟩ := h
  exact ⟨vs, rfl, ql hβ h⟩
 | .fn f l, v, h => by
  simp only [A.kill, AR] at h ⊢
  obtain ⟨vs, rfl, h⟩ := h
  exact ⟨vs, rfl, ql hβ h⟩
theorem ql {β' : Own} {b : Nat} (hβ : ∀ c, c ≠ b → β' c = β c) : ∀ {l : List A} {vs : List Value}, ARs β S w l vs → ARs β' S w (A.ew b l) vs
 | [], vs, h => by simpa [A.ew, ARs] using h
 | x :: l, vs, h => by
  simp only [A.ew, ARs] at h ⊢
  obtain ⟨u, us, rfl, h1, h2⟩ := h
  exact ⟨u, us, rfl, tz hβ h1, ql hβ h2⟩
end
theorem xw {b : Nat} : ∀ {l : List A} {j : Nat} {x : A}, (A.ew b l)[j]? = some x → ∃ y, l[j]? = some y ∧ x = y.kill b
 | [], j, x, h => by simp [A.ew] at h
 | y :: l, 0, x, h => by simp [A.ew] at h; exact ⟨y, rfl, h.symm⟩
 | y :: l, j + 1, x, h => by
  simp only [A.ew, List.getElem?_cons_succ] at h
  obtain ⟨z, h1, h2⟩ := xw h
  exact ⟨z, by simpa using h1, h2⟩
theorem q5 {b : Nat} : ∀ l : List A, (A.ew b l).length = l.length
 | [] => rfl
 | x :: l => by simp [A.ew, q5 l]
theorem uc (b : Nat) : ∀ (l : List (Nat × A)) (t : Nat), lk (l.map fun x => (x.1, x.2.kill b)) t = (lk l t).map (A.kill b)
 | [], t => rfl
 | (k, x) :: l, t => by
  simp only [List.map_cons, lk]
  split
  ·rfl
  ·exact uc b l t
theorem dp (b : Nat) : ∀ (l : List (Nat × Bool × List A)) (t : Nat), lk (l.map fun x => (x.1, x.2.1, A.ew b x.2.2)) t = (lk l t).map fun x => (x.1, A.ew b x.2)
 | [], t => rfl
 | (k, x) :: l, t => by
  simp only [List.map_cons, lk]
  split
  ·rfl
  ·exact dp b l t
theorem iv {b : Nat} {l : List A} {ds : List D} (h : l = ds.map A.d) : A.ew b l = ds.map A.d := by subst h; simp
theorem Rd.kill {β' : Own} {b k : Nat} {l : List A} (hβ : ∀ c, c ≠ b → β' c = β c) (h : Rd β S w k l) : Rd β' S w k (A.ew b l) := by
 obtain ⟨C, Tc, hC, hl, hc⟩ := h
 refine ⟨C, Tc, hC, by rw [q5]; exact hl, fun j x hx => ?_⟩
 obtain ⟨y, hy, rfl⟩ := xw hx
 obtain ⟨u, hu, hR⟩ := hc j y hy
 exact ⟨u, hu, tz hβ hR⟩
theorem Rel.kill (h : Rel G w0 M S0 σ a w β S) (b : Nat) : Rel G w0 M S0 (σ.kill b) a w β S := by
 refine { h with env := ?_, keys := ?_, rd := ?_, live := ?_, froz := ?_, fd := ?_, nilb := ?_, stay := ?_ }
 ·intro t x hx
  simp only [St.kill, uc, Option.map_eq_some_iff] at hx
  obtain ⟨y, hy, rfl⟩ := hx
  exact tz (fun _ _ => rfl) (h.env t y hy)
 ·intro c hc
  have := h.keys c hc
  simp only [St.kill, dp]
  cases hh : lk σ.heap c with
  | none => exact absurd hh this
  | some x => simp
 ·intro c k fr l hc hl
  simp only [St.kill, dp, Option.map_eq_some_iff] at hl
  obtain ⟨y, hy, e⟩ := hl
  obtain ⟨fr', l'⟩ := y
  cases e
  exact Rd.kill (fun _ _ => rfl) (h.rd c k _ _ hc hy)
 ·intro c k l hc hl
  simp only [St.kill, dp, Option.map_eq_some_iff] at hl
  obtain ⟨y, hy, e⟩ := hl
  obtain ⟨fr', l'⟩ := y
  cases e
  exact h.live c k _ hc hy
 ·intro c k l hc hl
  simp only [St.kill, dp, Option.map_eq_some_iff] at hl
  obtain ⟨y, hy, e⟩ := hl
  obtain ⟨fr', l'⟩ := y
  cases e
  obtain ⟨ds, h1, h2⟩ := h.froz c k _ hc hy
  exact ⟨ds, iv h1, h2⟩
 ·intro c l hl
  simp only [St.kill, dp, Option.map_eq_some_iff] at hl
  obtain ⟨y, hy, e⟩ := hl
  obtain ⟨fr', l'⟩ := y
  cases e
  obtain ⟨ds, h1⟩ := h.fd c _ hy
  exact ⟨ds, iv h1⟩
 ·intro c fr l hc hl
  simp only [St.kill, dp, Option.map_eq_some_iff] at hl
  obtain ⟨y, hy, e⟩ := hl
  obtain ⟨fr', l'⟩ := y
  cases e
  have := h.nilb c _ _ hc hy
  simp only at this ⊢
  rw [this]; rfl
 ·intro c h1 h2 hc
  refine h.stay c h1 h2 fun e => hc ?_
  simp only [St.kill, dp, e]; rfl
theorem Rel.move (h : Rel G w0 M S0 σ a w β S) {b : Nat} {fr0 : Bool} {l l' : List A} (hb : lk σ.heap b = some (fr0, l)) (hfr : fr0 = false) (hbK : b < 1000000 ∨ 2000000 ≤ b) {C : Array Value} {Tc : TypeId} (hw : w'.heap = w.heap.push (.cells C Tc)) (hos : w'.os = w.os) (ht : w'.tape = w.tape) (hout : w'.output = w.output)
  (hl : l'.length ≤ C.size) (hc : ∀ (j : Nat) (x : A), l'[j]? = some x → ∃ u, C[j]? = some u ∧ AR (β.set b w.heap.size) S w' x u) : Rel G w0 M S0 ((σ.kill b).wr b l') a w' (β.set b w.heap.size) S := by
 have ho : px w w' := fun k hk => by rw [hw, Array.getElem?_push, if_neg (by omega)]
 have hs : w.heap.size ≤ w'.heap.size := by rw [hw]; simp
 have hk := ho.keeps h.imm
 have hsh := ho.ln
 have hβ : ∀ c, c ≠ b → (β.set b w.heap.size) c = β c := fun c hc => by unfold Own.set; rw [if_neg hc]
 have hlt : ∀ b k, β b = some (some k) → k < w.heap.size := by
  intro b k hb
  have := h.keys b (by rw [hb]; simp)
  cases hl : lk σ.heap b with
  | none => exact absurd hl this
  | some x =>
   obtain ⟨fr, l⟩ := x
   obtain ⟨C, Tc, hC, _⟩ := h.rd b k fr l hb hl
   exact lt_of_heap hC
 have hnew : w'.heap[w.heap.size]? = some (.cells C Tc (0, 0)) := by rw [hw]; simp
 have hle : β.le β := fun _ _ h => h
 have hleS : S.le S := fun _ _ h => h
 have hlook : ∀ c fr l1, lk ((σ.kill b).wr b l').heap c = some (fr, l1) → (c = b ∧ fr = false ∧ l1 = l') ∨ (c ≠ b ∧ ∃ l2, lk σ.heap c = some (fr, l2) ∧ l1 = A.ew b l2) := by
  intro c fr l1 hl1
  simp only [St.wr, St.kill, du, dp] at hl1
  split at hl1
  ·rename_i e
   subst e
   rw [hb] at hl1
   simp only [Option.map_some, Option.some.injEq, Prod.mk.injEq] at hl1
   exact .inl ⟨rfl, by rw [← hl1.1, hfr], hl1.2.symm⟩
  ·rename_i e
   simp only [Option.map_eq_some_iff] at hl1
   obtain ⟨y, hy, e'⟩ := hl1
   obtain ⟨fr', l2⟩ := y
   cases e'
   exact .inr ⟨e, l2, hy, rfl⟩
 refine { h with env := ?_, glob := ?_, keys := ?_, rd := ?_, live := ?_, froz := ?_, fd := ?_, nilb := ?_, inj := ?_, imm := ?_, ext := ?_, stay := ?_, src := ?_ }
 ·intro t x hx
  simp only [St.wr, St.kill, uc, Option.map_eq_some_iff] at hx
  obtain ⟨y, hy, rfl⟩ := hx
  exact tz hβ (AR.mono hle hleS hk hsh (h.env t y hy))
 ·exact fun g => DRL.mono hleS hk (h.glob g)
 ·intro c hck
  simp only [St.wr, St.kill, du, dp]
  split
  ·rename_i e
   subst e
   rw [hb]; simp
  ·rename_i e
   rw [hβ c e] at hck
   have := h.keys c hck
   cases hh : lk σ.heap c with
   | none => exact absurd hh this
   | some x => simp
 ·intro c k fr l1 hck hl1
  rcases hlook c fr l1 hl1 with ⟨rfl, rfl, rfl⟩ | ⟨e, l2, h1, rfl⟩
  ·simp only [Own.set, if_true, Option.some.injEq] at hck
   subst hck
   exact ⟨C, Tc, hnew, hl, hc⟩
  ·rw [hβ c e] at hck
   exact Rd.kill hβ (Rd.mono hle hleS hk hsh (ho k (hlt c k hck)) (h.rd c k fr l2 hck h1))
 ·intro c k l1 hck hl1
  rcases hlook c _ l1 hl1 with ⟨rfl, _, rfl⟩ | ⟨e, l2, h1, rfl⟩
  ·simp only [Own.set, if_true, Option.some.injEq] at hck
   subst hck
   exact ⟨fun o hS => by have := h.imm _ _ hS; omega, .inl h.ext.size⟩
  ·rw [hβ c e] at hck
   exact h.live c k l2 hck h1
 ·intro c k l1 hck hl1
  rcases hlook c _ l1 hl1 with ⟨rfl, h0, rfl⟩ | ⟨e, l2, h1, rfl⟩
  ·cases h0
  ·rw [hβ c e] at hck
   obtain ⟨ds, h2, h3⟩ := h.froz c k l2 hck h1
   exact ⟨ds, iv h2, DRL.mono hleS hk h3⟩
 ·intro c l1 hl1
  rcases hlook c _ l1 hl1 with ⟨rfl, h0, rfl⟩ | ⟨e, l2, h1, rfl⟩
  ·cases h0
  ·obtain ⟨ds, h2⟩ := h.fd c l2 h1
   exact ⟨ds, iv h2⟩
 ·intro c fr l1 hck hl1
  rcases hlook c _ l1 hl1 with ⟨rfl, h0, rfl⟩ | ⟨e, l2, h1, rfl⟩
  ·simp [Own.set] at hck
  ·rw [hβ c e] at hck
   rw [h.nilb c fr l2 hck h1]; rfl
 ·intro c c' k hb1 hb2
  unfold Own.set at hb1 hb2
  split at hb1 <;> split at hb2
  ·simp_all
  ·cases hb1
   have := hlt _ _ hb2; omega
  ·cases hb2
   have := hlt _ _ hb1; omega
  ·exact h.inj _ _ _ hb1 hb2
 ·intro k o hS
  have := h.imm _ _ hS; omega
 ·exact h.ext.olds ho hos ht hout hs
 ·intro c h1 h2 hc
  have hcb : c ≠ b := by omega
  rw [hβ c hcb]
  refine h.stay c h1 h2 fun e => hc ?_
  simp only [St.wr, St.kill, du, dp, if_neg hcb, e]; rfl
 ·intro c k hck
  unfold Own.set at hck
  split at hck
  ·cases hck; exact .inl h.ext.size
  ·exact h.src c k hck
end
end Go.Ev

namespace Go.Ev
open Go
section
variable {P : Program} {G : bj} {T : Tab} {w0 : World} {M : Own} {S0 : Imm} {σ : St} {a : Act} {w w' : World} {β : Own} {S : Imm}
theorem kq {k o : Nat} {vals : List Value} (h : ∀ j v, vals[j]? = some v → w.cell? ⟨k, o + j, none⟩ = some v) : (loadCells ⟨k, o, none⟩ vals.length).run P w = .ok vals.toArray w := by
 have := run_loadCellsFrom (P := P) (w := w) (a := ⟨k, o, none⟩) vals.length 0 #[] (fun j => vals.getD j undef) (fun j hj => by
  rw [dh]
  rw [Nat.zero_add]
  exact h j _ (by simp [hj]))
 have e : ((List.range vals.length).map fun j => vals.getD j undef) = vals := by
  refine List.ext_getElem? fun i => ?_
  by_cases hi : i < vals.length
  ·simp [hi]
  ·rw [List.getElem?_eq_none (by simp; omega), List.getElem?_eq_none (by omega)]
 rw [e] at this
 simpa [loadCells] using this
theorem xc {hp : Nat → Option (Bool × List A)} (hh : rm β S w hp) {sz : Nat} {x : A} {v : Value} {K : Nat → List D → Prop} (h : ei hp sz x K) (hx : AR β S w x v) :
  ∃ m cs vals, K m cs ∧ cs.length = m * sz ∧ DRs S w cs vals ∧ ∀ w', px w w' → (Builtin.lenOf v).run P w' = .ok m w' ∧ (Builtin.firstCells sz m v).run P w' = .ok vals.toArray w' := by
 unfold ei at h
 split at h
 ·rename_i n l
  obtain ⟨hl, hK⟩ := h
  simp only [AR, DR] at hx
  obtain ⟨b, c, rfl, hc, hd⟩ := hx
  rcases hd with rfl | ⟨k, o, rfl, hd⟩
  ·simp at hl
   refine ⟨n, [], [], hK, by simpa using hl, rfl, fun w' _ => ⟨by simp [Builtin.lenOf], ?_⟩⟩
   cases b with
   | none => simp [Builtin.firstCells]
   | some b => simp [Builtin.firstCells, ← hl, loadCells, loadCellsFrom]
  ·have hv : ∀ j, j < l.length → ∃ x u, l[j]? = some x ∧ w.cell? ⟨k, o + j, none⟩ = some u ∧ DR S w x u := fun j hj => by
    obtain ⟨_, u, h1, h2⟩ := ju hd (j := j) (x := l[j]) (by simp [hj])
    exact ⟨_, u, by simp [hj], h1, h2⟩
   refine ⟨n, l, (List.range l.length).map fun j => (w.cell? ⟨k, o + j, none⟩).getD undef, hK, hl, ?_, fun w' ho => ⟨by simp [Builtin.lenOf], ?_⟩⟩
   ·refine jq (by simp) fun j x u hj hu => ?_
    have hlt : j < l.length := (List.getElem?_eq_some_iff.1 hj).1
    obtain ⟨x', u', h1, h2, h3⟩ := hv j hlt
    rw [h1] at hj; cases hj
    simp only [List.getElem?_map, List.getElem?_range hlt, Option.map_some, Option.some.injEq, h2, Option.getD_some] at hu
    rwa [← hu]
   ·have := kq (P := P) (w := w') (k := k) (o := o) (vals := (List.range l.length).map fun j => (w.cell? ⟨k, o + j, none⟩).getD undef) (fun j v hj => by
     have hlt : j < l.length := by have := (List.getElem?_eq_some_iff.1 hj).1; simpa using this
     obtain ⟨x', u', h1, h2, h3⟩ := hv j hlt
     simp only [List.getElem?_map, List.getElem?_range hlt, Option.map_some, Option.some.injEq, h2, Option.getD_some] at hj
     have hkb : k < w.heap.size := by
      have := World.block_lt_of_cell? (w := w) (a := ⟨k, o + j, none⟩) h2; exact this
     rw [cell_of_heap (ho k hkb), h2, hj])
    simp only [List.length_map, List.length_range] at this
    simp only [Builtin.firstCells, ← hl]
    exact this
 ·simp only [AR, DR] at hx
  subst hx
  exact ⟨0, [], [], h, by simp, rfl, fun w' _ => ⟨by simp [Builtin.lenOf], by simp [Builtin.firstCells]⟩⟩
 ·rename_i s
  obtain ⟨rfl, hK⟩ := h
  simp only [AR, DR] at hx
  subst hx
  have hsz : s.data.toList.length = s.size := by rw [Array.length_toList]; rfl
  refine ⟨s.size, _, s.data.toList.map fun x => Value.int .u8 (x.toNat : Int), hK, by rw [List.length_map, hsz, Nat.mul_one], jq (by simp only [List.length_map]) fun j x u hj hu => ?_, fun w' _ => ⟨by simp [Builtin.lenOf], ?_⟩⟩
  ·simp only [List.getElem?_map, Option.map_eq_some_iff] at hj hu
   obtain ⟨y, hy, rfl⟩ := hj
   obtain ⟨y', hy', rfl⟩ := hu
   rw [hy] at hy'; cases hy'
   simp only [DR]
  ·have e : s.extract 0 s.size = s := by simp
   simp only [Builtin.firstCells, e, Sem.run_pure]
   congr 1
   apply Array.ext'
   simp
 ·rename_i b o n sz'
  split at h
  ·rename_i fr l hl
   obtain ⟨ds, rfl, rfl, hlen, hK⟩ := h
   simp only [List.length_map] at hlen
   simp only [AR] at hx
   rcases hx with ⟨k, hk, c, C, Tc, fr', rfl, hc, hC, hl'⟩ | ⟨rfl, hbn, b', rfl⟩
   ·obtain ⟨C2, T2, hC2, h2, h3⟩ := hh b k _ _ hk hl
    rw [hC] at hC2; cases hC2
    simp only [List.length_map] at h2
    have hv : ∀ j, j < n * sz' → ∃ x u, ((ds.drop o).take (n * sz'))[j]? = some x ∧ C[o + j]? = some u ∧ DR S w x u := fun j hj => by
     obtain ⟨u, h4, h5⟩ := h3 (o + j) (.d ds[o + j]) (by simp [show o + j < ds.length by omega])
     refine ⟨ds[o + j], u, ?_, h4, by simpa only [AR] using h5⟩
     rw [List.getElem?_take, if_pos hj]
     simp [show o + j < ds.length by omega]
    refine ⟨n, (ds.drop o).take (n * sz'), (List.range (n * sz')).map fun j => (C[o + j]?).getD undef, hK, by simp; omega, ?_, fun w' ho => ⟨by simp [Builtin.lenOf], ?_⟩⟩
    ·refine jq (by simp; omega) fun j x u hj hu => ?_
     obtain ⟨hj', hlt⟩ := ft hj
     obtain ⟨x', u', h4, h5, h6⟩ := hv j hlt
     rw [h4] at hj; cases hj
     simp only [List.getElem?_map, List.getElem?_range hlt, Option.map_some, Option.some.injEq, h5, Option.getD_some] at hu
     rwa [← hu]
    ·have := kq (P := P) (w := w') (k := k) (o := o) (vals := (List.range (n * sz')).map fun j => (C[o + j]?).getD undef) (fun j v hj => by
      have hlt : j < n * sz' := by have := (List.getElem?_eq_some_iff.1 hj).1; simpa using this
      obtain ⟨x', u', h4, h5, h6⟩ := hv j hlt
      simp only [List.getElem?_map, List.getElem?_range hlt, Option.map_some, Option.some.injEq, h5, Option.getD_some] at hj
      rw [cell_of_heap (ho k (lt_of_heap hC)), cp hC, h5, hj])
     simp only [List.length_map, List.length_range] at this
     simp only [Builtin.firstCells]
     exact this
   ·refine ⟨0, (ds.drop o).take (0 * sz'), [], hK, by simp, by simp [DRs], fun w' _ => ⟨by simp [Builtin.lenOf], ?_⟩⟩
    cases b' with
    | none => simp [Builtin.firstCells]
    | some b' => simp [Builtin.firstCells, loadCells, loadCellsFrom]
  ·exact h.elim
 ·exact h.elim
theorem nextslicecap_le {need c : Nat} (h : c < need) : Builtin.nextslicecap need c ≤ 2 * need := by
 unfold Builtin.nextslicecap
 split
 ·omega
 ·split
  ·omega
  ·have key : ∀ r x, x ≤ 2 * need → Builtin.growBy need r x ≤ 2 * need := by
    intro r
    induction r with
    | zero => intro x hx; simpa [Builtin.growBy] using hx
    | succ r ih =>
     intro x hx
     simp only [Builtin.growBy]
     split
     ·exact hx
     ·exact ih _ (by omega)
   exact key 4 c (by omega)
theorem w8 (z : Array Value) (n : Nat) : (Builtin.zeroCells z n).size = n * z.size := by simp [Builtin.zeroCells]
theorem oe {t t2 ty e : Nat} {ye : Ty} {u2 : TypeDesc} (hT : bw P T) (hu : P.underlying t = some (.slice e)) (hye : T e = some ye) (hu2 : P.underlying t2 = some u2) (hni : ∀ k, u2 ≠ .int k) (hz : ye.zero ≠ []) (hzl : ye.zero.length = ye.size) (hb0 : ye.bytes ≠ 0)
  {base : Option Addr} {n c m : Nat} {x : Value} {olds news : List Value} (hlen : (Builtin.lenOf x).run P w = .ok m w) (hroom : c < n + m) (hbig : (n + m) * ye.bytes ≤ 70368744177664)
  (hold : ∀ w', px w w' → (Builtin.firstCells ye.size n (.slice base n c)).run P w' = .ok olds.toArray w') (hnew : ∀ w', px w w' → (Builtin.firstCells ye.size m x).run P w' = .ok news.toArray w') :
  ∃ (cap : Nat) (rest : Array Value) (w' : World), n + m ≤ cap ∧ rest.size = (cap - (n + m)) * ye.size ∧ (Builtin.append_ #[t, t2] ty #[.slice base n c, x]).run P w = .ok (.slice (some ⟨w.heap.size, 0, none⟩) (n + m) cap) w' ∧
   w'.heap = w.heap.push (.cells (olds.toArray ++ news.toArray ++ rest) e) ∧ w'.os = w.os ∧ w'.tape = w.tape ∧ w'.output = w.output := by
 obtain ⟨i, hi, hib, his⟩ := ll (w := w) hT hye
 obtain ⟨z, _, hzc⟩ := l6 (w := w) hT hye hz
 have hzs : z.cells.size = ye.size := by
  have := congrArg List.length hzc
  simpa [hzl] using this
 have hbne : i.bytes ≠ 0 := by omega
 let q : Question := .appendCap (n + m) c e
 let w1 : World := { w with drawn := w.drawn + 1 }
 have hneed : n + m ≤ 70368744177664 := by
  have h2 : (n + m) * 1 ≤ (n + m) * ye.bytes := Nat.mul_le_mul_left _ (by omega)
  omega
 have hcap : n + m ≤ q.cut (w.tape w.drawn q) := by simp [q, Question.cut]
 have hi1 : ∀ w, (typeInfo e).run P w = .ok i w := by
  intro w'
  obtain ⟨i', hi', _⟩ := ll (w := w') hT hye
  have h1 : P.info? e = some i := by
   simp only [typeInfo, Sem.run_bind, run_program, Result.andThen_ok] at hi
   cases h : P.info? e with
   | none => simp [h] at hi
   | some y => simp [h] at hi; rw [hi]
  simp [typeInfo, h1]
 have hz1 : (zeroValue e).run P w1 = .ok z w1 := by
  obtain ⟨i', d', hi', hd', _, _, _, _, hz'⟩ := Ty.info hT hye
  have : ∀ w w' : World, (zeroValue e).run P w = .ok z w → (zeroValue e).run P w' = .ok z w' := by
   intro w w' hh
   simp only [zeroValue, Sem.run_bind, hi1, Result.andThen_ok] at hh ⊢
   cases hq : i.zero with
   | none => rw [hq] at hh; simp at hh
   | some y => rw [hq] at hh; simp at hh; simp [hh]
  exact this w w1 ‹_›
 have ho1 : px w w1 := fun _ _ => rfl
 have hi64 : IntKind.i64.max = 9223372036854775807 := by decide
 have hfin : ¬ (Builtin.nextslicecap (n + m) c * i.bytes > 2 ^ 48) := by
  have h1 := nextslicecap_le hroom
  have h2 : Builtin.nextslicecap (n + m) c * i.bytes ≤ 2 * (n + m) * i.bytes := Nat.mul_le_mul_right _ h1
  rw [hib] at h2 ⊢
  have h3 : 2 * (n + m) * ye.bytes = 2 * ((n + m) * ye.bytes) := Nat.mul_assoc _ _ _
  omega
 refine ⟨q.cut (w.tape w.drawn q), Builtin.zeroCells z.cells (q.cut (w.tape w.drawn q) - (n + m)), w1.alloc (.cells (olds.toArray ++ news.toArray ++ Builtin.zeroCells z.cells (q.cut (w.tape w.drawn q) - (n + m))) e), hcap, by rw [w8, hzs], ?_, rfl, rfl, rfl, rfl⟩
 have hq : q.forced = false := rfl
 cases u2 with
 | int k => exact absurd rfl (hni k)
 | _ =>
  simp only [Builtin.append_, List.getElem?_toArray, List.getElem?_cons_zero, List.getElem?_cons_succ, Sem.run_bind, run_underlying hu, run_underlying hu2, Result.andThen_ok, b7 hT hye, Sem.run_pure]
  simp [hlen]
  rw [if_neg (show ¬ n + m ≤ c by omega), hi1]
  simp only [Result.andThen_ok]
  rw [if_neg (by rintro ⟨h1, _⟩; omega), hi1]
  simp only [Result.andThen_ok]
  rw [if_neg (by simpa using hfin), if_neg (by simp [Question.forced]), hi1]
  simp only [Result.andThen_ok]
  rw [hold w.drew (fun _ _ => rfl)]
  simp only [Result.andThen_ok]
  rw [hnew w.drew (fun _ _ => rfl)]
  simp only [Result.andThen_ok]
  rw [show (zeroValue e).run P w.drew = .ok z w.drew from hz1]
  simp [newRow, q, w1]
  congr 2
  apply Array.ext'
  simp [List.append_assoc]
theorem jh {t t2 ty e : Nat} {ye : Ty} {u2 : TypeDesc} (hT : bw P T) (hu : P.underlying t = some (.slice e)) (hye : T e = some ye) (hu2 : P.underlying t2 = some u2) (hni : ∀ k, u2 ≠ .int k)
  {base : Option Addr} {n c m : Nat} {x : Value} {news : List Value} (hlen : (Builtin.lenOf x).run P w = .ok m w) (hroom : n + m ≤ c) (hnew : (Builtin.firstCells ye.size m x).run P w = .ok news.toArray w)
  (hst : ∀ b, base = some b → (storeCells (b.add (n * ye.size)) news).run P w = .ok () w') (hno : base = none → w' = w) :
  (Builtin.append_ #[t, t2] ty #[.slice base n c, x]).run P w = .ok (.slice base (n + m) c) w' := by
 cases u2 with
 | int k => exact absurd rfl (hni k)
 | _ =>
  simp only [Builtin.append_, List.getElem?_toArray, List.getElem?_cons_zero, List.getElem?_cons_succ, Sem.run_bind, run_underlying hu, run_underlying hu2, Result.andThen_ok, b7 hT hye, Sem.run_pure]
  simp [hlen]
  rw [if_pos hroom, hnew]
  simp only [Result.andThen_ok]
  cases base with
  | none => simp [hno rfl]
  | some b => simp [hst b rfl]
theorem mf (olds vals : List Value) (rest : Array Value) {j : Nat} {u : Value} (h : (olds ++ vals)[j]? = some u) : (olds.toArray ++ vals.toArray ++ rest)[j]? = some u := by
 have hlt := (List.getElem?_eq_some_iff.1 h).1
 have e7 : olds.toArray ++ vals.toArray ++ rest = (olds ++ vals).toArray ++ rest := by simp
 rw [e7, Array.getElem?_append, if_pos (by simpa using hlt)]
 simpa using h
theorem y0 (hT : bw P T) (h : Rel G w0 M S0 σ a w β S) {o : Oper} {d : Nat} (hdK : d < 1000000) {c : Call} (ho : o.op = .call c) {K : A → St → Prop} (hk : ma T G σ (some d) (.call c) K) :
  ∃ r σ' v w' β', K r σ' ∧ (execOp a.eval o).run P w = .ok (.value v) w' ∧ Rel G w0 M S0 σ' a w' β' S ∧ AR β' S w' r v ∧ σ'.n = σ.n := by
 obtain ⟨dst, op, type, pos, after, guard⟩ := o
 simp only at ho
 subst ho
 obtain ⟨callee, args, argTypes⟩ := c
 simp only [ma] at hk
 split at hk
 ·rename_i t t2 s x d' hat har hd'
  cases hd'
  have e1 : argTypes = #[t, t2] := by cases argTypes; simp_all
  have e2 : args = #[s, x] := by cases args; simp_all
  subst e1 e2
  obtain ⟨e, ye, hu, hye, h2, hk⟩ := cf hT hk
  simp only [Bool.and_eq_true] at h2
  obtain ⟨h2, hrow⟩ := h2
  obtain ⟨hs0, hz, hzl, hb0⟩ := Ty.qg hrow
  simp only [Option.any_eq_true] at h2
  obtain ⟨y2, hy2, hk2⟩ := h2
  have hu2 : ∃ u2, P.underlying t2 = some u2 ∧ ∀ k, u2 ≠ .int k := by
   unfold Ty.isApp at hk2
   split at hk2
   ·rename_i e2 he2; exact ⟨_, oq hT hy2 he2, fun k hc => by cases hc⟩
   ·rename_i he2; exact ⟨_, ia hT hy2 he2, fun k hc => by cases hc⟩
   ·simp at hk2
  obtain ⟨u2, hu2, hni⟩ := hu2
  have hx := h.ev x
  have hs := h.ev s
  obtain ⟨m, cs, vals, hk, hcl, hcR, hrun⟩ := xc (P := P) h.hrd hk hx
  obtain ⟨hone, hk⟩ := hk
  have hvl := c8 hcR
  have hexec : ∀ {v : Value} {w' : World}, (Builtin.append_ #[t, t2] type #[a.eval s, a.eval x]).run P w = .ok v w' → (execOp a.eval ⟨dst, .call ⟨.builtin .append, #[s, x], #[t, t2]⟩, type, pos, after, guard⟩).run P w = .ok (.value v) w' := by
   intro v w' hh
   simp [execOp, resolve, invoke, builtin, hh]
  obtain ⟨hlen, hnew0⟩ := hrun w (fun _ _ => rfl)
  have hones : ∀ v ∈ vals, v.oneCell' = true := by
   intro v hv
   obtain ⟨j, hj⟩ := List.getElem?_of_mem hv
   have hlt : j < cs.length := by have := (List.getElem?_eq_some_iff.1 hj).1; omega
   obtain ⟨u, hu', hR⟩ := fw hcR (j := j) (x := cs[j]) (by simp [hlt])
   rw [hj] at hu'; cases hu'
   exact A.aeu (β := β) (S := S) (w := w) (x := .d cs[j]) (by simpa only [AR] using hR) (hone _ (List.getElem_mem _))
  split at hk
  ·-- onto nil
   rename_i es
   rw [es] at hs
   simp only [AR, DR] at hs
   obtain ⟨hbig, hd0, _, rfl, hK⟩ := hk
   have hd : σ.hp d = none := by simpa using hd0
   by_cases hm : m = 0
   ·subst hm
    have hcs : cs = [] := List.length_eq_zero_iff.1 (by simpa using hcl)
    subst hcs
    have hvs : vals = [] := List.length_eq_zero_iff.1 (by simpa using hvl)
    subst hvs
    refine ⟨_, _, .slice none 0 0, w, _, hK, hexec ?_, h.ghost hd hdK, ?_, rfl⟩
    ·rw [hs]
     exact jh hT hu hye hu2 hni hlen (Nat.le_refl _) hnew0 (fun b hb => by cases hb) (fun _ => rfl)
    ·simp only [AR]; exact .inr ⟨trivial, by simp [Own.gh], none, rfl⟩
   ·obtain ⟨cap, rest, w', hc1, hc2, hr, hw1, hw2, hw3, hw4⟩ := oe (w := w) (ty := type) (base := none) (n := 0) (c := 0) (olds := []) (news := vals) hT hu hye hu2 hni hz hzl hb0 hlen (by omega) (by simpa using hbig)
     (fun w' _ => by simp [Builtin.firstCells]) (fun w' ho => (hrun w' ho).2)
    obtain ⟨h1, h2, h3, h4⟩ := h.push (l := cs.map A.d) hd hdK hw1 hw2 hw3 hw4 (by simp; omega) (fun j x hj => by
     simp only [List.getElem?_map, Option.map_eq_some_iff] at hj
     obtain ⟨y, hy, rfl⟩ := hj
     obtain ⟨u, hu', hR⟩ := fw hcR hy
     exact ⟨u, mf [] vals rest hu', by simp only [AR]; exact hR⟩)
    refine ⟨_, _, _, w', _, hK, hexec (by rw [hs]; exact hr), h1, ?_, rfl⟩
    simp only [AR]
    refine .inl ⟨w.heap.size, by simp [Own.set], cap, ([] : List Value).toArray ++ vals.toArray ++ rest, e, (0, 0), by rw [Nat.zero_add], by omega, by rw [hw1]; simp, ?_⟩
    have e5 : vals.length = m * ye.size := by omega
    simp [hc2, e5]
    rw [← Nat.add_mul]
    exact Nat.mul_le_mul_right _ (by omega)
  ·-- onto the call's own
   rename_i b o n sz es
   rw [es] at hs
   split at hk
   ·rename_i l hl
    obtain ⟨⟨hok, rfl⟩, hll, hbig, ds, rfl, _, rfl, hK⟩ := hk
    obtain ⟨rfl, hbK⟩ := adm hok
    simp only [List.length_map] at hll
    simp only [AR] at hs
    have hl' : lk σ.heap b = some (false, ds.map A.d) := hl
    have hbne : β b ≠ none := by
     rcases hs with ⟨k', hk', _⟩ | ⟨_, h', _⟩
     ·rw [hk']; simp
     ·exact h'
    -- where there is room
    by_cases hroom : ∃ base c, a.eval s = .slice base n c ∧ n + m ≤ c ∧ (c = 0 ∨ ∃ k, β b = some (some k) ∧ base = some ⟨k, 0, none⟩)
    ·obtain ⟨base, c, hv, hr, hbase⟩ := hroom
     rcases hbase with rfl | ⟨k, hk, rfl⟩
     ·have hn : n = 0 := by omega
      have hm : m = 0 := by omega
      subst hn hm
      have hcs : cs = [] := List.length_eq_zero_iff.1 (by simpa using hcl)
      subst hcs
      have hds : ds = [] := List.length_eq_zero_iff.1 (by simpa using hll)
      subst hds
      have hvs : vals = [] := List.length_eq_zero_iff.1 (by simpa using hvl)
      subst hvs
      have hst : ((σ.kill b).wr b []) = (σ.kill b).wr b [] := rfl
      have hlk : lk (σ.kill b).heap b = some (false, []) := by simp [St.kill, dp, hl', A.ew]
      have hkill := h.kill b
      have hwr : Rel G w0 M S0 ((σ.kill b).wr b []) a w β S := by
       have hsame : ∀ t, lk ((σ.kill b).wr b []).heap t = lk (σ.kill b).heap t := by
        intro t
        simp only [St.wr, du]
        split
        ·rename_i e; subst e; rw [hlk]; rfl
        ·rfl
       exact { hkill with stay := fun b h1 h2 hb => hkill.stay b h1 h2 (by rw [← hsame]; exact hb), keys := fun b hb => by rw [hsame]; exact hkill.keys b hb, rd := fun b k fr l hb hl => by rw [hsame] at hl; exact hkill.rd b k fr l hb hl, live := fun b k l hb hl => by rw [hsame] at hl; exact hkill.live b k l hb hl, froz := fun b k l hb hl => by rw [hsame] at hl; exact hkill.froz b k l hb hl, fd := fun b l hl => by rw [hsame] at hl; exact hkill.fd b l hl, nilb := fun b fr l hb hl => by rw [hsame] at hl; exact hkill.nilb b fr l hb hl }
      refine ⟨_, _, .slice base 0 0, w, β, hK, hexec ?_, by simpa using hwr, ?_, rfl⟩
      ·rw [hv]
       exact jh hT hu hye hu2 hni hlen (by omega) hnew0 (fun b hb => by simp [storeCells]) (fun _ => rfl)
      ·simp only [AR]; exact .inr ⟨by first | trivial | omega, hbne, base, rfl⟩
     ·obtain ⟨C, Tc, hC, hlC, hcell⟩ := h.rd b k _ _ hk hl'
      simp only [List.length_map] at hlC
      have hsize : c * ye.size ≤ C.size ∨ c = 0 := by
       rcases hs with ⟨k', hk', c', C', T', fr', hv', _, hC', hle⟩ | ⟨hn, _, a', hv'⟩
       ·rw [hk] at hk'; cases hk'
        rw [hC] at hC'; cases hC'
        rw [hv] at hv'; cases hv'
        left; omega
       ·rw [hv] at hv'; cases hv'
        right; rfl
      have hsize' : c * ye.size ≤ C.size := by
       rcases hsize with h' | h'
       ·exact h'
       ·subst h'; simp
      have hfit : n * ye.size + vals.length ≤ C.size := by
       have h1 : (n + m) * ye.size ≤ c * ye.size := Nat.mul_le_mul_right _ hr
       rw [Nat.add_mul] at h1
       omega
      have hkill := h.kill b
      have hlk : lk (σ.kill b).heap b = some (false, ds.map A.d) := by simp [St.kill, dp, hl']
      obtain ⟨w', C', g1, g2, g3, g4, g5, g6, g7, g8⟩ := js (P := P) (k := k) (Tc := Tc) vals C (n * ye.size) 0 w hones hC (by omega)
      have hsz : C'.size = C.size := by
       have := congrArg List.length g3
       simpa [iu] using this
      obtain ⟨g9, g10, g11⟩ := hkill.write (l' := ds.map A.d ++ cs.map A.d) hk hlk hC g2 hsz g4 g5 g6 g7 g8 (by simp; omega) (fun j z hj => by
       have hC'j : C'[j]? = (setAt C.toList (n * ye.size) vals)[j]? := by
        have : C'[j]? = C'.toList[j]? := by simp
        rw [this, g3]; rfl
       rw [hC'j, getElem?_setAt _ _ _ _ (by simp; omega)]
       rw [List.getElem?_append] at hj
       simp only [List.length_map] at hj
       split at hj
       ·rename_i hlt
        rw [if_neg (by omega)]
        obtain ⟨u, hu', hR⟩ := hcell j z hj
        simp only [List.getElem?_map, Option.map_eq_some_iff] at hj
        obtain ⟨y, hy, rfl⟩ := hj
        exact ⟨u, by simpa using hu', hR⟩
       ·rename_i hlt
        simp only [List.getElem?_map, Option.map_eq_some_iff] at hj
        obtain ⟨y, hy, rfl⟩ := hj
        have hlt2 : j - ds.length < cs.length := (List.getElem?_eq_some_iff.1 hy).1
        rw [if_pos (by omega)]
        obtain ⟨u, hu', hR⟩ := fw hcR hy
        exact ⟨u, by rw [← hll]; exact hu', by simp only [AR]; exact hR⟩)
      refine ⟨_, _, .slice (some ⟨k, 0, none⟩) (n + m) c, w', β, hK, hexec ?_, g9, ?_, rfl⟩
      ·rw [hv]
       exact jh hT hu hye hu2 hni hlen hr hnew0 (fun b hb => by cases hb; rw [dh, Nat.zero_add]; exact g1) (fun hb => by cases hb)
      ·simp only [AR]
       exact .inl ⟨k, hk, c, C', Tc, (0, 0), rfl, hr, g2, by omega⟩
    ·-- a new row
     have hv : ∃ base c, a.eval s = .slice base n c ∧ c < n + m ∧ ∃ olds : List Value, DRs S w ds olds ∧ ∀ w', px w w' → (Builtin.firstCells ye.size n (.slice base n c)).run P w' = .ok olds.toArray w' := by
      rcases hs with ⟨k, hk, c, C, Tc, fr, hv, hc, hC, hle⟩ | ⟨rfl, hbn, a', hv⟩
      ·refine ⟨_, c, hv, Nat.lt_of_not_le fun hle => hroom ⟨_, c, hv, hle, .inr ⟨k, hk, rfl⟩⟩, ?_⟩
       obtain ⟨C2, T2, hC2, hlC, hcell⟩ := h.rd b k _ _ hk hl'
       rw [hC] at hC2; cases hC2
       simp only [List.length_map] at hlC
       refine ⟨C.toList.take ds.length, jq (by simp; omega) fun j y u hj hu => ?_, fun w' ho => ?_⟩
       ·obtain ⟨u', hu', hR⟩ := hcell j (.d y) (by simp [hj])
        have hlt : j < ds.length := (List.getElem?_eq_some_iff.1 hj).1
        rw [List.getElem?_take, if_pos hlt] at hu
        have : C[j]? = some u := by simpa using hu
        rw [this] at hu'; cases hu'
        simpa only [AR] using hR
       ·have := kq (P := P) (w := w') (k := k) (o := 0) (vals := C.toList.take ds.length) (fun j v hj => by
         have hlt : j < ds.length := by
          have := (List.getElem?_eq_some_iff.1 hj).1
          simp at this; omega
         rw [List.getElem?_take, if_pos hlt] at hj
         rw [cell_of_heap (ho k (lt_of_heap hC)), cp hC, Nat.zero_add]
         simpa using hj)
        simp only [Builtin.firstCells]
        rw [← hll]
        have e9 : (C.toList.take ds.length).length = ds.length := by simp; omega
        rw [e9] at this
        exact this
      ·refine ⟨_, 0, hv, Nat.lt_of_not_le fun hle => hroom ⟨_, 0, hv, hle, .inl rfl⟩, [], ?_, fun w' ho => ?_⟩
       ·have hds : ds = [] := List.length_eq_zero_iff.1 (by simpa using hll)
        subst hds; simp [DRs]
       ·cases a' <;> simp [Builtin.firstCells, loadCells, loadCellsFrom]
     obtain ⟨base, c, hv, hc, olds, holds, hrold⟩ := hv
     have hol := c8 holds
     obtain ⟨cap, rest, w', hc1, hc2, hr, hw1, hw2, hw3, hw4⟩ := oe (w := w) (ty := type) (base := base) (n := n) (c := c) (olds := olds) (news := vals) hT hu hye hu2 hni hz hzl hb0 hlen hc hbig hrold (fun w' ho => (hrun w' ho).2)
     have ho : px w w' := fun k hk => by rw [hw1, Array.getElem?_push, if_neg (by omega)]
     have hk1 := ho.keeps h.imm
     have hmv := h.move (l' := ds.map A.d ++ cs.map A.d) hl' rfl hbK hw1 hw2 hw3 hw4 (by simp; omega) (fun j z hj => by
      rw [List.getElem?_append] at hj
      simp only [List.length_map] at hj
      split at hj
      ·rename_i hlt
       simp only [List.getElem?_map, Option.map_eq_some_iff] at hj
       obtain ⟨y, hy, rfl⟩ := hj
       obtain ⟨u, hu', hR⟩ := fw holds hy
       refine ⟨u, mf _ _ _ ?_, by simp only [AR]; exact DR.mono (fun _ _ h => h) hk1 hR⟩
       have hlt2 : j < olds.length := by omega
       rw [List.getElem?_append, if_pos hlt2]; exact hu'
      ·rename_i hlt
       simp only [List.getElem?_map, Option.map_eq_some_iff] at hj
       obtain ⟨y, hy, rfl⟩ := hj
       have hlt2 : j - ds.length < cs.length := (List.getElem?_eq_some_iff.1 hy).1
       obtain ⟨u, hu', hR⟩ := fw hcR hy
       refine ⟨u, mf _ _ _ ?_, by simp only [AR]; exact DR.mono (fun _ _ h => h) hk1 hR⟩
       rw [List.getElem?_append, if_neg (by omega), hol]; exact hu')
     refine ⟨_, _, _, w', _, hK, hexec (by rw [hv]; exact hr), hmv, ?_, rfl⟩
     simp only [AR]
     refine .inl ⟨w.heap.size, by simp [Own.set], cap, olds.toArray ++ vals.toArray ++ rest, e, (0, 0), rfl, by omega, by rw [hw1]; simp, ?_⟩
     have e5 : vals.length = m * ye.size := by omega
     have e6 : olds.length = n * ye.size := by omega
     have e7 : cap * ye.size = (n + m) * ye.size + (cap - (n + m)) * ye.size := by rw [← Nat.add_mul]; congr 1; omega
     simp [hc2, e5, e6]
     rw [e7, Nat.add_mul]
     omega
   ·exact hk.elim
  ·exact hk.elim
 ·exact hk.elim
theorem aku : ∀ {x : D} {v : Value}, DR S w x v → DR S w x.dn v := by
 have key : ∀ {x : D} {v : Value}, DR S w x v → DR S w (match x with | .nil => .slice 0 [] | x => x) v := by
  intro x v h
  split
  ·simp only [DR] at h ⊢
   exact ⟨none, 0, h, Nat.le_refl _, .inl (by first | trivial | rfl)⟩
  ·exact h
 have keys : ∀ {l : List D} {vs : List Value}, DRs S w l vs → DRs S w (l.map fun | .nil => .slice 0 [] | x => x) vs := by
  intro l vs h
  refine jq (by simpa using c8 h) fun j x u hj hu => ?_
  simp only [List.getElem?_map, Option.map_eq_some_iff] at hj
  obtain ⟨y, hy, rfl⟩ := hj
  obtain ⟨u', hu', hR⟩ := fw h hy
  rw [hu] at hu'; cases hu'
  have := key hR
  cases y <;> exact this
 intro x v h
 cases x with
 | nil => exact key h
 | agg l =>
  simp only [DR] at h
  obtain ⟨vs, hv, hl⟩ := h
  simp only [D.dn, DR]
  exact ⟨vs, hv, keys hl⟩
 | tup l =>
  simp only [DR] at h
  obtain ⟨vs, hv, hl⟩ := h
  simp only [D.dn, DR]
  refine ⟨vs, hv, jq (by simpa using c8 hl) fun j x u hj hu => ?_⟩
  simp only [List.getElem?_map, Option.map_eq_some_iff] at hj
  obtain ⟨y, hy, rfl⟩ := hj
  obtain ⟨u', hu', hR⟩ := fw hl hy
  rw [hu] at hu'; cases hu'
  cases y with
  | agg m =>
   simp only [DR] at hR
   obtain ⟨us, hu2, hm⟩ := hR
   show DR S w (.agg _) u
   simp only [DR]
   exact ⟨us, hu2, keys hm⟩
  | nil => exact key hR
  | _ => exact hR
 | _ => exact h
def je (β : Own) (σ : St) (bs : List Nat) (S : Imm) : Imm := fun k o => S k o ∨ ∃ b ∈ bs, β b = some (some k) ∧ ∃ l, σ.hp b = some (false, l) ∧ o < l.length
theorem r5 (bs : List Nat) : S.le (je β σ bs S) := fun _ _ h => .inl h
theorem zf (h : Rel G w0 M S0 σ a w β S) {bs : List Nat} {b k : Nat} {fr : Bool} {ds : List D} (hb : β b = some (some k)) (hl : σ.hp b = some (fr, ds.map A.d)) (hm : b ∈ bs) : DRL (je β σ bs S) w k 0 ds := by
 cases fr with
 | true =>
  obtain ⟨ds', h1, h2⟩ := h.froz b k _ hb hl
  have : ds = ds' := by
   have := congrArg pe h1
   simpa using this
  subst this
  exact DRL.mono (r5 bs) (fun _ _ _ => rfl) h2
 | false =>
  obtain ⟨C, Tc, hC, hlen, hc⟩ := h.rd b k _ _ hb hl
  simp only [List.length_map] at hlen
  refine ik fun j x hx => ?_
  have hlt : j < ds.length := (List.getElem?_eq_some_iff.1 hx).1
  rw [Nat.zero_add]
  refine ⟨.inr ⟨b, hm, hb, _, hl, by simpa using hlt⟩, ?_⟩
  obtain ⟨u, hu, hR⟩ := hc j (.d x) (by simp [hx])
  simp only [AR] at hR
  exact ⟨u, (cp hC j).trans hu, DR.mono (r5 bs) (fun _ _ _ => rfl) hR⟩
theorem me (h : Rel G w0 M S0 σ a w β S) {x : A} {v : Value} {K : D → List Nat → Prop} (hk : e8 σ.hp x K) (hx : AR β S w x v) :
  ∃ d bs, K d bs ∧ (∀ b ∈ bs, ∃ (fr : Bool) (ds : List D), σ.hp b = some (fr, ds.map A.d)) ∧ ∀ bs', (∀ b ∈ bs, b ∈ bs') → DR (je β σ bs' S) w d v := by
 unfold e8 at hk
 split at hk
 ·rename_i y
  simp only [AR] at hx
  exact ⟨_, [], hk, by simp, fun bs' _ => DR.mono (r5 bs') (fun _ _ _ => rfl) (aku hx)⟩
 ·rename_i b o n sz
  split at hk
  ·rename_i fr l hl
   obtain ⟨ds, rfl, y, rfl, hK⟩ := hk
   refine ⟨_, [b], hK, fun c hc => by simp at hc; subst hc; exact ⟨fr, ds, hl⟩, fun bs' hbs => ?_⟩
   simp only [AR] at hx
   simp only [DR]
   rcases hx with ⟨k, hk, c, C, Tc, fr', rfl, hc, hC, hle⟩ | ⟨rfl, hbn, a', rfl⟩
   ·refine ⟨_, c, rfl, hc, .inr ⟨k, o, rfl, ?_⟩⟩
    have := zf h (bs := bs') hk hl (hbs b (by simp))
    have := aak (lq this o) (n * sz)
    rwa [Nat.zero_add] at this
   ·exact ⟨a', 0, rfl, Nat.le_refl _, .inl (by simp)⟩
  ·exact hk.elim
 ·rename_i b o
  split at hk
  ·rename_i fr l hl
   obtain ⟨ds, rfl, hK⟩ := hk
   refine ⟨_, [b], hK, fun c hc => by simp at hc; subst hc; exact ⟨fr, ds, hl⟩, fun bs' hbs => ?_⟩
   simp only [AR] at hx
   simp only [DR]
   obtain ⟨k, hk, rfl⟩ := hx
   have := lq (zf h (bs := bs') hk hl (hbs b (by simp))) o
   rw [Nat.zero_add] at this
   exact ⟨k, o, rfl, this⟩
  ·exact hk.elim
 ·rename_i cells
  refine ⟨_, [], hk, by simp, fun bs' _ => ?_⟩
  simp only [AR] at hx
  simp only [DR]
  obtain ⟨k, o, hv, hd⟩ := hx
  exact ⟨k, o, hv, DRL.mono (r5 bs') (fun _ _ _ => rfl) hd⟩
 ·exact hk.elim
theorem ld (h : Rel G w0 M S0 σ a w β S) : ∀ {xs : List A} {vs : List Value} {K : List D → List Nat → Prop}, ej σ.hp xs K → ARs β S w xs vs →
  ∃ ds bs, K ds bs ∧ (∀ b ∈ bs, ∃ (fr : Bool) (l : List D), σ.hp b = some (fr, l.map A.d)) ∧ ∀ bs', (∀ b ∈ bs, b ∈ bs') → DRs (je β σ bs' S) w ds vs
 | [], vs, K, hk, hx => by
  simp only [ARs] at hx
  subst hx
  exact ⟨[], [], hk, by simp, fun _ _ => rfl⟩
 | x :: xs, vs, K, hk, hx => by
  simp only [ARs] at hx
  obtain ⟨u, us, rfl, h1, h2⟩ := hx
  simp only [ej] at hk
  obtain ⟨d, bs, hk, hb1, hd⟩ := me h hk h1
  obtain ⟨ds, bs2, hk, hb2, hds⟩ := ld h hk h2
  refine ⟨_, _, hk, fun b hb => ?_, fun bs' hbs => ⟨u, us, rfl, hd bs' fun b hb => hbs b (by simp [hb]), hds bs' fun b hb => hbs b (by simp [hb])⟩⟩
  rcases List.mem_append.1 hb with hb | hb
  ·exact hb1 b hb
  ·exact hb2 b hb
theorem jk (h : Rel G w0 M S0 σ a w β S) {x : A} {v : Value} {K : D → List Nat → Prop} (hk : gx σ.hp x K) (hx : AR β S w x v) :
  ∃ d bs, K d bs ∧ (∀ b ∈ bs, ∃ (fr : Bool) (ds : List D), σ.hp b = some (fr, ds.map A.d)) ∧ ∀ bs', (∀ b ∈ bs, b ∈ bs') → DR (je β σ bs' S) w d v := by
 unfold gx at hk
 split at hk
 ·rename_i l
  simp only [AR] at hx
  obtain ⟨vs, rfl, hx⟩ := hx
  obtain ⟨ds, bs, hk, hb, hds⟩ := ld h hk hx
  refine ⟨_, bs, hk, hb, fun bs' hbs => ?_⟩
  simp only [DR]
  exact ⟨vs, rfl, hds bs' hbs⟩
 ·rename_i f l
  simp only [AR] at hx
  obtain ⟨vs, rfl, hx⟩ := hx
  obtain ⟨ds, bs, hk, hb, hds⟩ := ld h hk hx
  refine ⟨_, bs, hk, hb, fun bs' hbs => ?_⟩
  simp only [DR]
  exact ⟨vs, rfl, hds bs' hbs⟩
 ·exact me h hk hx
theorem qq (h : Rel G w0 M S0 σ a w β S) : ∀ {xs : List A} {vs : List Value} {K : List D → List Nat → Prop}, jb σ.hp xs K → ARs β S w xs vs →
  ∃ ds bs, K ds bs ∧ (∀ b ∈ bs, ∃ (fr : Bool) (l : List D), σ.hp b = some (fr, l.map A.d)) ∧ ∀ bs', (∀ b ∈ bs, b ∈ bs') → DRs (je β σ bs' S) w ds vs
 | [], vs, K, hk, hx => by
  simp only [ARs] at hx
  subst hx
  exact ⟨[], [], hk, by simp, fun _ _ => rfl⟩
 | x :: xs, vs, K, hk, hx => by
  simp only [ARs] at hx
  obtain ⟨u, us, rfl, h1, h2⟩ := hx
  simp only [jb] at hk
  obtain ⟨d, bs, hk, hb1, hd⟩ := jk h hk h1
  obtain ⟨ds, bs2, hk, hb2, hds⟩ := qq h hk h2
  refine ⟨_, _, hk, fun b hb => ?_, fun bs' hbs => ⟨u, us, rfl, hd bs' fun b hb => hbs b (by simp [hb]), hds bs' fun b hb => hbs b (by simp [hb])⟩⟩
  rcases List.mem_append.1 hb with hb | hb
  ·exact hb1 b hb
  ·exact hb2 b hb
theorem r6 (bs : List Nat) : ∀ (l : List (Nat × Bool × List A)) (t : Nat), lk (l.map fun x => (x.1, x.2.1 || bs.contains x.1, x.2.2)) t = (lk l t).map fun x => (x.1 || bs.contains t, x.2)
 | [], t => rfl
 | (k, x) :: l, t => by
  simp only [List.map_cons, lk]
  split
  ·rename_i e; subst e; rfl
  ·exact r6 bs l t
theorem Rel.freeze (h : Rel G w0 M S0 σ a w β S) {bs : List Nat} (hb : ∀ b ∈ bs, ∃ (fr : Bool) (l : List D), σ.hp b = some (fr, l.map A.d)) : Rel G w0 M S0 (σ.freeze bs) a w β (je β σ bs S) := by
 have hlt : ∀ b k, β b = some (some k) → k < w.heap.size := by
  intro b k hb
  have := h.keys b (by rw [hb]; simp)
  cases hl : lk σ.heap b with
  | none => exact absurd hl this
  | some x =>
   obtain ⟨fr, l⟩ := x
   obtain ⟨C, Tc, hC, _⟩ := h.rd b k fr l hb hl
   exact lt_of_heap hC
 have hle := r5 (β := β) (σ := σ) (S := S) bs
 have hk : lr S w w := fun _ _ _ => rfl
 have hsh : kd w w := fun k C Tc fr hk => ⟨C, hk, rfl⟩
 have hlook : ∀ b, lk (σ.freeze bs).heap b = (lk σ.heap b).map fun x => (x.1 || bs.contains b, x.2) := by
  intro b
  cases bs with
  | nil => simp [St.freeze]
  | cons b0 bs => exact r6 _ _ _
 have henv : (σ.freeze bs).env = σ.env := by cases bs <;> rfl
 have hn : (σ.freeze bs).n = σ.n := by cases bs <;> rfl
 have hll : (fun (x : Bool × List A) => x) = fun x => x := rfl
 refine { h with size := ?_, env := ?_, glob := ?_, keys := ?_, rd := ?_, live := ?_, froz := ?_, fd := ?_, nilb := ?_, imm := ?_, old := ?_, small := by rw [hn]; exact h.small, stay := fun b h1 h2 hb => h.stay b h1 h2 fun e => hb (by rw [hlook, e]; rfl) }
 ·rw [hn]; exact h.size
 ·intro t x hx
  rw [henv] at hx
  exact AR.mono (fun _ _ h => h) hle hk hsh (h.env t x hx)
 ·exact fun g => DRL.mono hle hk (h.glob g)
 ·intro b hbk
  rw [hlook]
  have := h.keys b hbk
  cases hh : lk σ.heap b with
  | none => exact absurd hh this
  | some x => simp
 ·intro b k fr l hbk hl
  rw [hlook, Option.map_eq_some_iff] at hl
  obtain ⟨y, hy, e⟩ := hl
  obtain ⟨fr', l'⟩ := y
  cases e
  exact Rd.mono (fun _ _ h => h) hle hk hsh rfl (h.rd b k _ _ hbk hy)
 ·intro b k l hbk hl
  rw [hlook, Option.map_eq_some_iff] at hl
  obtain ⟨y, hy, e⟩ := hl
  obtain ⟨fr', l'⟩ := y
  simp only [Prod.mk.injEq, Bool.or_eq_false_iff] at e
  obtain ⟨⟨e1, e2⟩, rfl⟩ := e
  subst e1
  obtain ⟨h1, h2⟩ := h.live b k _ hbk hy
  refine ⟨fun o hS => ?_, h2⟩
  rcases hS with hS | ⟨c, hc, hck, l2, hl2, _⟩
  ·exact h1 o hS
  ·have := h.inj c b k hck hbk
   subst this
   simp at e2
   exact e2 hc
 ·intro b k l hbk hl
  rw [hlook, Option.map_eq_some_iff] at hl
  obtain ⟨y, hy, e⟩ := hl
  obtain ⟨fr', l'⟩ := y
  simp only [Prod.mk.injEq] at e
  obtain ⟨e1, rfl⟩ := e
  cases fr' with
  | true =>
   obtain ⟨ds, h1, h2⟩ := h.froz b k _ hbk hy
   exact ⟨ds, h1, DRL.mono hle hk h2⟩
  | false =>
   simp at e1
   obtain ⟨fr, ds, hds⟩ := hb b e1
   have : lk σ.heap b = some (fr, ds.map A.d) := hds
   rw [hy] at this
   cases this
   exact ⟨ds, rfl, zf h hbk hy e1⟩
 ·intro b l hl
  rw [hlook, Option.map_eq_some_iff] at hl
  obtain ⟨y, hy, e⟩ := hl
  obtain ⟨fr', l'⟩ := y
  simp only [Prod.mk.injEq] at e
  obtain ⟨e1, rfl⟩ := e
  cases fr' with
  | true => exact h.fd b _ hy
  | false =>
   simp at e1
   obtain ⟨fr, ds, hds⟩ := hb b e1
   have : lk σ.heap b = some (fr, ds.map A.d) := hds
   rw [hy] at this
   cases this
   exact ⟨ds, rfl⟩
 ·intro b fr l hbk hl
  rw [hlook, Option.map_eq_some_iff] at hl
  obtain ⟨y, hy, e⟩ := hl
  obtain ⟨fr', l'⟩ := y
  cases e
  exact h.nilb b _ _ hbk hy
 ·intro k o hS
  rcases hS with hS | ⟨c, hc, hck, _⟩
  ·exact h.imm k o hS
  ·exact hlt c k hck
 ·intro k o hS hlt0
  rcases hS with hS | ⟨c, hc, hck, l, hl, _⟩
  ·exact h.old k o hS hlt0
  ·rcases (h.live c k l hck hl).2 with h1 | h1
   ·omega
   ·exact .inr h1
end
end Go.Ev

namespace Go.Ev
open Go
section
variable {P : Program} {G : bj} {T : Tab} {w0 : World} {M : Own} {S0 : Imm} {σ : St} {a : Act} {w w' : World} {β : Own} {S : Imm}
def py (G : bj) (w0 : World) (M : Own) (S0 : Imm) (n : Nat) (K : St → Prop) (a : Act) (w : World) : Prop :=
 ∃ σ β S, K σ ∧ Rel G w0 M S0 σ a w β S ∧ σ.n = n
theorem jy {f : FuncId} (h : fb P f = true) (args : Array Value) : (callFunc f args).run P w = .ok (.enter f args) w := by
 unfold fb at h
 split at h
 ·rename_i fn hf
  simp only [Bool.and_eq_true, Bool.not_eq_true'] at h
  have h1 : fn.body.isNone = false := by
   cases hb : fn.body with
   | none => rw [hb] at h; simp at h
   | some _ => rfl
  simp only [callFunc, Sem.run_bind, run_program, Result.andThen_ok, hf, h.2, h1]
  simp
 ·cases h
theorem yu {β : Own} {S : Imm} {w : World} : ∀ {xs ys : List A} {us vs : List Value}, ARs β S w xs us → ARs β S w ys vs → ARs β S w (xs ++ ys) (us ++ vs)
 | [], ys, us, vs, h, k => by
  simp only [ARs] at h; subst h; exact k
 | x :: xs, ys, us, vs, h, k => by
  simp only [ARs] at h
  obtain ⟨u, us', rfl, h1, h2⟩ := h
  simp only [List.cons_append, ARs]
  exact ⟨u, us' ++ vs, rfl, h1, yu h2 k⟩
theorem np (h : Rel G w0 M S0 σ a w β S) {o : Oper} {f : FuncId} {xs : List A} {vals : List Value} (hx : ARs β S w xs vals) (hexec : fb P f = true → (execOp a.eval o).run P w = .ok (.enter f vals.toArray) w) {K : A → St → Prop}
  (hk : jb σ.hp xs fun ds bs => fv P G f ds fun fresh r => K (.d r) (if fresh then σ else σ.freeze bs)) (Q : Exit → Act → World → Prop) (next : Act → World → Prop)
  (hn : ∀ r σ' v w' β' S', K r σ' → Rel G w0 M S0 σ' a w' β' S' → AR β' S' w' r v → σ'.n = σ.n → next (a.put o.dst v) w') : o.wp P a w next Q := by
   obtain ⟨ds, bs, hk, hb, hds⟩ := qq h hk hx
   obtain ⟨fresh, r, ⟨hcall, hsim⟩, hK⟩ := hk
   have hfr := h.freeze hb
   have hd := hds bs (fun _ hb => hb)
   unfold Oper.wp
   rw [hexec hcall, Oper.upon_enter]
   refine Calls.mono (by exact hsim (je β σ bs S) w _ hfr.imm hfr.glob hd) ?_
   rintro e w' ⟨v, rfl, hbel, S', hS', hR⟩
   simp only
   have ho : px w w' := fun k hk => hbel.block k hk
   cases fresh with
   | true =>
    let S2 : Imm := fun k o => S k o ∨ S' k o
    have hr2 := h.olds (S' := S2) ho hbel.os hbel.tape hbel.output hbel.size (fun _ _ h => .inl h) (fun k o hk => by
     rcases hk with hk | hk
     ·exact .inl hk
     ·rcases hS' k o hk with ⟨h1, _⟩ | h1
      ·cases h1
      ·exact .inr h1)
    exact hn (.d r) σ v w' β S2 hK hr2 (by simp only [AR]; exact DR.mono (fun _ _ h => .inr h) (fun _ _ _ => rfl) hR) rfl
   | false =>
    let S2 : Imm := fun k o => je β σ bs S k o ∨ S' k o
    have hr2 := hfr.olds (S' := S2) ho hbel.os hbel.tape hbel.output hbel.size (fun _ _ h => .inl h) (fun k o hk => by
     rcases hk with hk | hk
     ·exact .inl hk
     ·rcases hS' k o hk with ⟨_, h1⟩ | h1
      ·exact .inl h1
      ·exact .inr h1)
    exact hn (.d r) _ v w' β S2 hK hr2 (by simp only [AR]; exact DR.mono (fun _ _ h => .inr h) (fun _ _ _ => rfl) hR) (by cases bs <;> rfl)
theorem qu (h : Rel G w0 M S0 σ a w β S) {o : Oper} {K : A → St → Prop} (hk : lf P G σ o.op K) (Q : Exit → Act → World → Prop) (next : Act → World → Prop)
  (hn : ∀ r σ' v w' β' S', K r σ' → Rel G w0 M S0 σ' a w' β' S' → AR β' S' w' r v → σ'.n = σ.n → next (a.put o.dst v) w') : o.wp P a w next Q := by
 obtain ⟨dst, op, type, pos, after, guard⟩ := o
 simp only at hk hn
 unfold lf at hk
 split at hk
 ·rename_i c
  obtain ⟨callee, args, argTypes⟩ := c
  simp only at hk
  split at hk
  ·rename_i f
   have hexec : fb P f = true → (execOp a.eval ⟨dst, .call ⟨.value (.func f), args, argTypes⟩, type, pos, after, guard⟩).run P w = .ok (.enter f (args.toList.map a.eval).toArray) w := fun hcall => by
    have harr : (args.toList.map a.eval).toArray = args.map a.eval := by cases args; simp
    rw [harr]
    simp only [execOp, Sem.run_bind, resolve, Act.eval, Deferred.ofValue]
    simp [invoke, jy hcall]
   exact np h (ARs.map (fun x => h.ev x) args.toList) hexec hk Q next hn
  ·rename_i x _
   have hx := h.ev x
   split at hk
   ·rename_i f cs e
    rw [e] at hx
    simp only [AR] at hx
    obtain ⟨vs, hv, hcs⟩ := hx
    have hexec : fb P f = true → (execOp a.eval ⟨dst, .call ⟨.value x, args, argTypes⟩, type, pos, after, guard⟩).run P w = .ok (.enter f (args.toList.map a.eval ++ vs.toList).toArray) w := fun hc => by
     have harr : (args.toList.map a.eval ++ vs.toList).toArray = args.map a.eval ++ vs := by cases args; cases vs; simp
     rw [harr]
     simp only [execOp, Sem.run_bind, resolve]
     rw [hv]
     simp [Deferred.ofValue, invoke, jy hc]
    exact np h (yu (ARs.map (fun x => h.ev x) args.toList) hcs) hexec hk Q next hn
   ·exact hk.elim
  ·exact hk.elim
 ·exact hk.elim
theorem mh (hT : bw P T) (h : Rel G w0 M S0 σ a w β S) {o : Oper} (hd : ∀ d, o.dst = some d → d < σ.n) {K : St → Prop} (hk : jc P G T σ o K) (Q : Exit → Act → World → Prop) :
  o.wp P a w (py G w0 M S0 σ.n K) Q := by
 unfold jc at hk
 split at hk
 ·obtain ⟨r, v, hK, hR, hrun⟩ := ab0 (P := P) hT h.hrd (fun x => h.ev x) o hk
  rw [St.bu] at hK
  unfold Oper.wp
  rw [hrun, Oper.upon_value]
  exact ⟨_, β, S, hK, h.put hR hd, by cases o.dst <;> rfl⟩
 ·split at hk
  ·rename_i d hdst
   obtain ⟨hf0, hk⟩ := hk
   have hf : lk σ.heap d = none := by simpa [St.hp] using hf0
   obtain ⟨r, l, v, w', β', hK, hrun, hrel, hR⟩ := abg (P := P) hT h hf (Nat.lt_of_lt_of_le (hd d hdst) h.small) hk
   rw [St.bu] at hK
   unfold Oper.wp
   rw [hrun, Oper.upon_value]
   refine ⟨_, β', S, hK, ?_, rfl⟩
   rw [hdst]
   exact hrel.put hR (fun d' hd' => by cases hd'; exact hd d hdst)
  ·exact hk.elim
 ·-- memory is written
  obtain ⟨dst, op, type, pos, after, guard⟩ := o
  simp only at hk hd
  cases op with
  | store t ad x =>
   have hk2 : ma T G σ none (.store t ad x) (fun r σ' => σ'.gl dst r K) := by
    unfold ma at hk ⊢; exact hk
   obtain ⟨r, σ', w', hK, hrun, hrel, hr, hn⟩ := abx (P := P) hT h hk2
   rw [St.bu] at hK
   have hrun2 : (execOp a.eval ⟨dst, .store t ad x, type, pos, after, guard⟩).run P w = .ok .skip w' := by
    simp [execOp, hrun]
   unfold Oper.wp
   rw [hrun2, Oper.upon_skip]
   refine ⟨_, β, S, hK, hrel.put (by rw [hr]; simp [AR, DR]) (fun d hd' => by rw [hn]; exact hd d hd'), ?_⟩
   cases dst <;> exact hn
  | call c =>
   cases dst with
   | none =>
    exfalso
    unfold ma at hk
    simp only at hk
    split at hk
    ·rename_i hh
     cases hh
    ·exact hk
   | some d =>
    obtain ⟨r, σ', v, w', β', hK, hrun, hrel, hR, hn⟩ := y0 (P := P) hT h (Nat.lt_of_lt_of_le (hd d rfl) h.small) (o := ⟨some d, .call c, type, pos, after, guard⟩) rfl hk
    rw [St.bu] at hK
    unfold Oper.wp
    rw [hrun, Oper.upon_value]
    exact ⟨_, β', S, hK, hrel.put hR (fun d' hd' => by rw [hn]; exact hd d' hd'), hn⟩
  | _ => exact hk.elim
 ·refine qu h hk Q _ ?_
  intro r σ' v w' β' S' hK hrel hR hn
  rw [St.bu] at hK
  exact ⟨_, β', S', hK, hrel.put hR (fun d hd' => by rw [hn]; exact hd d hd'), by rw [← hn]; cases o.dst <;> rfl⟩
theorem py.mono {n : Nat} {K K' : St → Prop} (h : py G w0 M S0 n K a w) (hk : ∀ σ, K σ → K' σ) : py G w0 M S0 n K' a w :=
 let ⟨σ, β, S, h1, h2, h3⟩ := h
 ⟨σ, β, S, hk σ h1, h2, h3⟩
theorem Rel.setBool (h : Rel G w0 M S0 σ a w β S) {g : Nat} {t : Bool} (hg : σ.get g = .d (.bool t)) (b : Bool) (hb : t = b) : Rel G w0 M S0 (σ.put (some g) (.d (.bool b))) a w β S := by
 have hv := h.get g
 rw [hg] at hv
 simp only [AR, DR] at hv
 refine { h with size := ?_, env := ?_ }
 ·exact h.size
 ·intro t' x hx
  simp only [St.put, lk] at hx
  split at hx
  ·rename_i e
   subst e
   cases hx
   rw [hv, hb]
   exact AR.bool b
  ·exact h.env t' x hx
theorem xd (h : Rel G w0 M S0 σ a w β S) {ops : Array Oper} {o : Oper} {yes no : St → Prop} (hk : jv ops σ o yes no) :
  ∃ σ', Rel G w0 M S0 σ' a w β S ∧ σ'.n = σ.n ∧ ((Region.wanted o (yielded ops a.tmps) = true ∧ yes σ') ∨ (Region.wanted o (yielded ops a.tmps) = false ∧ no σ')) := by
 unfold jv at hk
 split at hk
 ·rename_i hg
  exact ⟨σ, h, rfl, .inl ⟨by simp [Region.wanted, hg], hk⟩⟩
 ·rename_i j want hg
  split at hk
  ·exact hk.elim
  ·rename_i g hgt
   have hy : yielded ops a.tmps j = match a.tmps[g]? with | some (.bool b) => some b | _ => none := by
    unfold yielded
    unfold zg at hgt
    rw [hgt]
    rfl
   have hv := h.get g
   split at hk
   ·rename_i t ht
    rw [ht] at hv
    simp only [AR, DR] at hv
    have ha : a.tmps[g]? = some (.bool t) := by
     rw [Array.getD_eq_getD_getElem?] at hv
     cases hq : a.tmps[g]? with
     | none => rw [hq] at hv; simp [undef] at hv
     | some u => rw [hq] at hv; simp at hv; rw [hv]
    rw [ha] at hy
    cases want with
    | true =>
     cases t with
     | true => exact ⟨_, h.setBool ht true rfl, rfl, .inl ⟨by simp [Region.wanted, hg, hy], by have := hk.tt rfl; rwa [St.bu] at this⟩⟩
     | false => exact ⟨_, h.setBool ht false rfl, rfl, .inr ⟨by simp [Region.wanted, hg, hy], by have := hk.ff rfl; rwa [St.bu] at this⟩⟩
    | false =>
     cases t with
     | true => exact ⟨_, h.setBool ht true rfl, rfl, .inr ⟨by simp [Region.wanted, hg, hy], by have := hk.tt rfl; rwa [St.bu] at this⟩⟩
     | false => exact ⟨_, h.setBool ht false rfl, rfl, .inl ⟨by simp [Region.wanted, hg, hy], by have := hk.ff rfl; rwa [St.bu] at this⟩⟩
   ·rename_i ht
    rw [ht] at hv
    simp only [AR, DR, DRs] at hv
    obtain ⟨vs, hv, hvs⟩ := hv
    refine ⟨σ, h, rfl, .inr ⟨?_, hk⟩⟩
    have hn : yielded ops a.tmps j = none := by
     rw [hy]
     rw [Array.getD_eq_getD_getElem?] at hv
     cases hq : a.tmps[g]? with
     | none => rfl
     | some u => rw [hq] at hv; simp at hv; subst hv; rfl
    simp [Region.wanted, hg, hn]
   ·exact hk.elim
theorem o7 (h : Rel G w0 M S0 σ a w β S) (dst : Option Nat) (hd : ∀ d, dst = some d → d < σ.n) : Rel G w0 M S0 (σ.put dst (.d (.tup []))) (a.put dst undef) w β S :=
 h.put (by simp only [AR, DR, DRs]; exact ⟨#[], rfl, rfl⟩) hd
theorem mw {ops : Array Oper} {i : Nat} {o : Oper} {K : Act → World → Prop} {Q : Exit → Act → World → Prop} (hi : ops[i]? = some o) (hw : Region.wanted o (yielded ops a.tmps) = true) (h : o.wp P a w K Q) : wpOp P ops Q i K a w := by
 simp only [wpOp, hi, hw, if_true]
 exact .inl h
end
end Go.Ev

namespace Go.Ev
open Go
def Det (F : (A → Prop) → Prop) : Prop := ∀ K, F K → ∃ r, K r ∧ ∀ K', K' r → F K'
section
variable {T : Tab} {hp : Nat → Option (Bool × List A)}
theorem Det.bh {t : Nat} {F : Nat → Ty → (A → Prop) → Prop} (h : ∀ e y, Det (F e y)) : Det (fun K => Ev.bh T t fun e y => F e y K) := by
 intro K hk
 unfold Ev.bh at hk ⊢
 split at hk
 ·split at hk
  ·split at hk
   ·obtain ⟨r, h1, h2⟩ := h _ _ K hk
    exact ⟨r, h1, fun K' h' => h2 K' h'⟩
   ·exact hk.elim
  ·exact hk.elim
 ·exact hk.elim
theorem Det.fo {t : Nat} {F : Nat → Nat → Ty → (A → Prop) → Prop} (h : ∀ n e y, Det (F n e y)) : Det (fun K => Ev.fo T t fun n e y => F n e y K) := by
 intro K hk
 unfold Ev.fo at hk ⊢
 split at hk
 ·split at hk
  ·split at hk
   ·obtain ⟨r, h1, h2⟩ := h _ _ _ K hk
    exact ⟨r, h1, fun K' h' => h2 K' h'⟩
   ·exact hk.elim
  ·exact hk.elim
 ·exact hk.elim
theorem Det.iy {t : Nat} {F : List (Nat × Nat × Bool) → (A → Prop) → Prop} (h : ∀ l, Det (F l)) : Det (fun K => Ev.iy T t fun l => F l K) := by
 intro K hk
 unfold Ev.iy at hk ⊢
 split at hk
 ·split at hk
  ·obtain ⟨r, h1, h2⟩ := h _ K hk
   exact ⟨r, h1, fun K' h' => h2 K' h'⟩
  ·exact hk.elim
 ·exact hk.elim
theorem Det.pure (r : A) : Det (fun K => K r) := fun _ h => ⟨r, h, fun _ h' => h'⟩
theorem Det.cd {c : Prop} {F : (A → Prop) → Prop} (h : Det F) : Det (fun K => Cd c (F K)) := fun K hk =>
 let ⟨r, h1, h2⟩ := h K hk.k
 ⟨r, h1, fun K' h' => ⟨hk.c, h2 K' h'⟩⟩
theorem Det.false : Det (fun _ => False) := fun _ h => h.elim
theorem Det.eqE {α : Type} {x : α} {f : α → A} : Det (fun K => EqE x fun y => K (f y)) := fun K ⟨y, hy, hk⟩ => ⟨_, hk, fun K' h' => ⟨y, hy, h'⟩⟩
theorem Det.nth {α : Type} {l : List α} {i : Nat} {f : α → A} : Det (fun K => ao l i fun x => K (f x)) := fun K ⟨x, hx, hk⟩ => ⟨_, hk, fun K' h' => ⟨x, hx, h'⟩⟩
theorem Det.tk {α : Type} {l : List α} {o s : Nat} {f : List α → A} : Det (fun K => TkE l o s fun x => K (f x)) := fun K ⟨x, hx, hl, hk⟩ => ⟨_, hk, fun K' h' => ⟨x, hx, hl, h'⟩⟩
theorem Det.bound {x : Option A} {d : Int} {F : Int → (A → Prop) → Prop} (h : ∀ i, Det (F i)) : Det (fun K => gp x d fun i => F i K) := by
 intro K hk
 unfold gp at hk ⊢
 split at hk
 ·obtain ⟨r, h1, h2⟩ := h _ K hk
  exact ⟨r, h1, fun K' h' => h2 K' h'⟩
 ·obtain ⟨r, h1, h2⟩ := h _ K hk
  exact ⟨r, h1, fun K' h' => h2 K' h'⟩
 ·exact hk.elim
theorem ac0 (op : BinOp) (k : IntKind) (x y : Int) : Det (acz op k x y) := by
 cases op <;> first | exact Det.pure _ | exact Det.eqE | exact Det.cd Det.eqE | exact Det.false
def aaa (T : Tab) (xT : Nat) : Bool := !((T xT).any Ty.alr)
theorem afd {op : BinOp} {xT : Nat} {a b : A} (hs : aaa T xT = true) : Det (aap T op xT a b) := by
 intro K h
 unfold aap at h ⊢
 split at h
 ·split at h
  ·exact Det.cd Det.eqE K h
  ·exact Det.cd Det.eqE K h
  ·rename_i h1 h2
   obtain ⟨r, h3, h4⟩ := Det.cd (ac0 _ _ _ _) K h
   exact ⟨r, h3, fun K' h' => h4 K' h'⟩
 ·obtain ⟨hc, h⟩ := h
  split at h
  ·exact ⟨_, h, fun K' h' => ⟨hc, h'⟩⟩
  ·exact ⟨_, h, fun K' h' => ⟨hc, h'⟩⟩
  ·exact h.elim
 ·split at h
  ·exact Det.cd Det.eqE K h
  all_goals first | exact ⟨_, h, fun K' h' => h'⟩ | exact Det.eqE K h | exact h.elim
 ·exfalso
  have hc := h.c
  unfold aaa at hs
  rw [hc] at hs
  exact absurd hs (by decide)
 ·exact h.elim
theorem aiu {op : UnOp} {a : A} : Det (ait op a) := by
 intro K h
 unfold ait at h ⊢
 split at h
 all_goals first | exact Det.eqE K h | exact ⟨_, h, fun K' h' => h'⟩ | exact h.elim
theorem we {g : Bool} {o s : Nat} {x : A} : Det (qf g o s x) := by
 intro K h
 unfold qf at h ⊢
 split at h
 ·split at h
  ·exact Det.tk K h
  ·exact Det.nth K h
 ·split at h
  ·exact Det.tk K h
  ·exact Det.nth K h
 ·exact h.elim
theorem ac8 {t : Nat} {a : A} : Det (mq T hp t a) := by
 intro K h
 unfold mq at h ⊢
 split at h
 ·split at h
  ·split at h
   ·split at h
    ·exact Det.tk K h
    ·exact Det.nth K h
   ·exact h.elim
  ·split at h
   ·exact Det.tk K h
   ·exact Det.nth K h
  ·exact h.elim
 ·exact h.elim
theorem tr {s f : Nat} {a : A} : Det (ky T s a f) := by
 unfold ky
 refine Det.iy fun l => ?_
 intro K h
 split at h
 ·split at h
  ·exact ⟨_, h, fun K' h' => h'⟩
  ·exact ⟨_, h, fun K' h' => h'⟩
  ·exact ⟨_, h, fun K' h' => h'⟩
  ·exact h.elim
 ·exact h.elim
theorem aay {s f : Nat} {a : A} : Det (ub T s a f) := by
 unfold ub
 refine Det.iy fun l => ?_
 intro K h
 split at h
 ·exact we K h
 ·exact h.elim
theorem tv {t : Nat} {x i : A} : Det (jm T t x i) := by
 intro K h
 unfold jm at h ⊢
 split at h
 ·split at h
  ·exact Det.bh (fun _ _ => Det.cd (Det.pure _)) K h
  ·exact Det.bh (fun _ _ => Det.cd (Det.cd (Det.pure _))) K h
  ·exact Det.fo (fun _ _ _ => Det.cd (Det.pure _)) K h
  ·exact Det.fo (fun _ _ _ => Det.cd (Det.pure _)) K h
  ·exact h.elim
 ·exact h.elim
theorem aa5 {t : Nat} {x i : A} : Det (q3 T t x i) := by
 intro K h
 unfold q3 at h ⊢
 split at h
 ·split at h
  ·exact Det.cd (Det.cd Det.eqE) K h
  ·rename_i h1
   obtain ⟨r, h3, h4⟩ := Det.fo (fun _ _ _ => Det.cd we) K h
   exact ⟨r, h3, fun K' h' => h4 K' h'⟩
 ·exact h.elim
theorem acm {s d : Nat} {a : A} : Det (nq T hp s d a) := by
 intro K h
 unfold nq at h ⊢
 split at h
 ·obtain ⟨hc, h⟩ := h
  split at h
  ·split at h
   ·obtain ⟨z, hz, h⟩ := h
    exact ⟨_, h, fun K' h' => ⟨hc, z, hz, h'⟩⟩
   ·obtain ⟨z, hz, h⟩ := h
    exact ⟨_, h, fun K' h' => ⟨hc, z, hz, h'⟩⟩
   ·exact h.elim
  ·exact h.elim
 ·exact Det.cd (Det.cd (Det.pure _)) K h
 ·exact Det.cd (Det.pure _) K h
 ·obtain ⟨h1, h2, bs, hb, h⟩ := h
  exact ⟨_, h, fun K' h' => ⟨h1, h2, bs, hb, h'⟩⟩
 ·split at h
  ·obtain ⟨h1, ds, hd, h2, bs, hb, h⟩ := h
   exact ⟨_, h, fun K' h' => ⟨h1, ds, hd, h2, bs, hb, h'⟩⟩
  ·exact h.elim
 ·exact h.elim
theorem oy {place : Nat → Option (Nat × Nat)} : ∀ {parts : List (Nat × A)} {cells : List A} {K : List A → Prop}, q0 place cells parts K → ∃ c, K c ∧ ∀ K', K' c → q0 place cells parts K'
 | [], cells, K, h => ⟨cells, h, fun _ h' => h'⟩
 | (i, v) :: rest, cells, K, h => by
  simp only [q0] at h ⊢
  split at h
  ·exact h.elim
  ·obtain ⟨h1, h2, h3, h⟩ := h
   rw [fc] at h
   obtain ⟨c, h4, h5⟩ := oy h
   exact ⟨c, h4, fun K' h' => ⟨h1, h2, h3, by rw [fc]; exact h5 K' h'⟩⟩
theorem aar {t : Nat} {parts : List (Nat × A)} : Det (qs T t parts) := by
 intro K h
 unfold qs at h ⊢
 split at h
 ·obtain ⟨hc, h⟩ := h
  split at h
  ·obtain ⟨c, h4, h5⟩ := oy h
   exact ⟨_, h4, fun K' h' => ⟨hc, h5 _ h'⟩⟩
  ·split at h
   ·obtain ⟨c, h4, h5⟩ := oy h
    exact ⟨_, h4, fun K' h' => ⟨hc, h5 _ h'⟩⟩
   ·exact h.elim
  ·exact h.elim
 ·exact h.elim
theorem abt {t : Nat} {x : A} {lo hi mx : Option A} : Det (k8 T hp t x lo hi mx) := by
 intro K h
 unfold k8 at h ⊢
 split at h
 ·exact h.elim
 ·split at h
  ·exact Det.cd (Det.bound fun _ => Det.bound fun _ => Det.cd Det.eqE) K h
  ·exact Det.bh (fun _ _ => Det.bound fun _ => Det.bound fun _ => Det.cd Det.eqE) K h
  ·exact Det.bh (fun _ _ => Det.cd (Det.bound fun _ => Det.bound fun _ => Det.cd (Det.pure _))) K h
  ·split at h
   ·exact Det.fo (fun _ _ _ => Det.cd (Det.bound fun _ => Det.bound fun _ => Det.cd (Det.pure _))) K h
   ·exact h.elim
  ·exact h.elim
theorem afu {t : Nat} {x : A} : Det (abb T t x) := by
 intro K h
 unfold abb at h ⊢
 split at h
 ·exact Det.bh (fun _ _ => Det.pure _) K h
 ·exact Det.bh (fun _ _ => Det.pure _) K h
 ·exact Det.bh (fun _ _ => Det.pure _) K h
 ·exact Det.cd Det.eqE K h
 ·rename_i h1 h2 h3 h4
  obtain ⟨r, h5, h6⟩ := Det.fo (fun _ _ _ => Det.pure _) K h
  exact ⟨r, h5, fun K' h' => h6 K' h'⟩
theorem yb {b : Bool} {l : List A} : Det (ya b l) := by
 intro K h
 unfold ya at h ⊢
 split at h
 ·exact Det.eqE K h
 ·exact h.elim
theorem xe {x : A} {i : Nat} : Det (lv x i) := by
 intro K h
 unfold lv at h ⊢
 split at h
 ·exact Det.nth K h
 ·exact Det.nth K h
 ·exact h.elim
theorem ado {c a b : A} : Det (wg c a b) := by
 intro K h
 unfold wg at h ⊢
 split at h
 ·rename_i t
  cases t with
  | true => exact ⟨_, h.tt rfl, fun K' h' => ⟨fun _ => h', (fun e => nomatch e)⟩⟩
  | false => exact ⟨_, h.ff rfl, fun K' h' => ⟨(fun e => nomatch e), fun _ => h'⟩⟩
 ·exact h.elim
def oi (T : Tab) : Op → Bool
 | .binOp _ xT _ _ _ => aaa T xT
 | _ => true
theorem agf {ev : Operand → A} {op : Op} (hs : oi T op = true) : Det (ez T ev hp op) := by
 intro K h
 unfold ez at h ⊢
 split at h
 ·exact ⟨_, h, fun K' h' => h'⟩
 ·exact ⟨_, h, fun K' h' => h'⟩
 ·exact ado K h
 ·exact aar K h
 ·exact ac8 K h
 ·split at h
  ·exact ⟨_, h, fun K' h' => h'⟩
  ·exact ⟨_, h, fun K' h' => h'⟩
  ·exact ⟨_, h, fun K' h' => h'⟩
  ·exact h.elim
 ·exact afd hs K h
 ·exact aiu K h
 ·exact acm K h
 ·exact abt K h
 ·exact tr K h
 ·exact aay K h
 ·exact tv K h
 ·exact aa5 K h
 ·exact xe K h
 ·split at h
  ·split at h
   ·exact afu K h
   ·exact h.elim
  ·exact yb K h
  ·exact yb K h
  ·exact h.elim
 ·split at h
  ·exact ⟨_, h, fun K' h' => h'⟩
  ·exact h.elim
 ·exact h.elim
mutual
def cb : A → Nat → Prop
 | .ptr b _, c => b = c
 | .tptr b _ _, c => b = c
 | .town b _ _, c => b = c
 | .own b _ _ _, c => b = c
 | .agg l, c => od l c
 | .tup l, c => od l c
 | .fn _ l, c => od l c
 | _, _ => False
def od : List A → Nat → Prop
 | [], _ => False
 | x :: l, c => cb x c ∨ od l c
end
theorem afv {hp' : Nat → Option (Bool × List A)} {t : Nat} {a : A} {K : A → Prop} (hh : ∀ b, cb a b → ∀ fr l, hp b = some (fr, l) → ∃ fr', hp' b = some (fr', l)) (h : mq T hp t a K) : mq T hp' t a K := by
 unfold mq at h ⊢
 split at h
 ·split at h
  ·rename_i b o
   split at h
   ·rename_i fr l hl
    obtain ⟨fr', hl'⟩ := hh b rfl fr l hl
    simp only [hl']
    exact h
   ·exact h.elim
  ·exact h
  ·exact h.elim
 ·exact h.elim
theorem afh {hp' : Nat → Option (Bool × List A)} {s d : Nat} {a : A} {K : A → Prop} (hh : ∀ b, cb a b → ∀ fr l, hp b = some (fr, l) → ∃ fr', hp' b = some (fr', l)) (h : nq T hp s d a K) : nq T hp' s d a K := by
 unfold nq at h ⊢
 split at h
 ·exact h
 ·exact h
 ·exact h
 ·exact h
 ·rename_i b o n sz
  split at h
  ·rename_i fr l hl
   obtain ⟨fr', hl'⟩ := hh b rfl fr l hl
   simp only [hl']
   exact h
  ·exact h.elim
 ·exact h.elim
theorem adz {hp' : Nat → Option (Bool × List A)} {t : Nat} {a : A} {lo hi mx : Option A} {K : A → Prop} (hh : ∀ b, cb a b → ∀ fr l, hp b = some (fr, l) → ∃ fr', hp' b = some (fr', l)) (h : k8 T hp t a lo hi mx K) : k8 T hp' t a lo hi mx K := by
 unfold k8 at h ⊢
 split at h
 ·exact h.elim
 ·split at h
  ·exact h
  ·exact h
  ·exact h
  ·rename_i b o
   split at h
   ·rename_i fr l hl
    obtain ⟨fr', hl'⟩ := hh b rfl fr l hl
    simp only [hl']
    exact h
   ·exact h.elim
  ·exact h.elim
theorem oc {ev ev' : Operand → A} : ∀ {l : List (Nat × Operand)}, (∀ p ∈ l, ev' p.2 = ev p.2) → (l.map fun p => (p.1, ev' p.2)) = l.map fun p => (p.1, ev p.2)
 | [], _ => rfl
 | p :: l, h => by
  simp only [List.map_cons]
  rw [h p (by simp), oc fun q hq => h q (by simp [hq])]
theorem ab1 {ev ev' : Operand → A} {hp' : Nat → Option (Bool × List A)} {op : Op} {K : A → Prop} (he : ∀ x ∈ op.operands, ev' x = ev x)
  (hh : ∀ x ∈ op.operands, ∀ b, cb (ev x) b → ∀ fr l, hp b = some (fr, l) → ∃ fr', hp' b = some (fr', l)) (h : ez T ev hp op K) : ez T ev' hp' op K := by
 cases op with
 | move x => simp only [ez] at h ⊢; rw [he x (by simp [Op.operands])]; exact h
 | assign x => simp only [ez] at h ⊢; rw [he x (by simp [Op.operands])]; exact h
 | pick c a b => simp only [ez] at h ⊢; rw [he c (by simp [Op.operands]), he a (by simp [Op.operands]), he b (by simp [Op.operands])]; exact h
 | build t ps =>
  simp only [ez] at h ⊢
  rw [oc fun p hp => he p.2 (by simp only [Op.operands]; simp; exact ⟨p.1, by simpa using hp⟩)]
  exact h
 | load t x =>
  simp only [ez] at h ⊢
  rw [he x (by simp [Op.operands])]
  exact afv (hh x (by simp [Op.operands])) h
 | nilCheck x => simp only [ez] at h ⊢; rw [he x (by simp [Op.operands])]; exact h
 | binOp op xT x y yT => simp only [ez] at h ⊢; rw [he x (by simp [Op.operands]), he y (by simp [Op.operands])]; exact h
 | unOp op t x => simp only [ez] at h ⊢; rw [he x (by simp [Op.operands])]; exact h
 | convert s d x =>
  simp only [ez] at h ⊢
  rw [he x (by simp [Op.operands])]
  exact afh (hh x (by simp [Op.operands])) h
 | slice t x lo hi mx =>
  simp only [ez] at h ⊢
  have e1 : lo.map ev' = lo.map ev := by cases lo with | none => rfl | some l => simp [he l (by simp [Op.operands])]
  have e2 : hi.map ev' = hi.map ev := by cases hi with | none => rfl | some l => simp [he l (by simp [Op.operands])]
  have e3 : mx.map ev' = mx.map ev := by cases mx with | none => rfl | some l => simp [he l (by simp [Op.operands])]
  rw [he x (by simp [Op.operands]), e1, e2, e3]
  exact adz (hh x (by simp [Op.operands])) h
 | fieldAddr s x f => simp only [ez] at h ⊢; rw [he x (by simp [Op.operands])]; exact h
 | field s x f => simp only [ez] at h ⊢; rw [he x (by simp [Op.operands])]; exact h
 | indexAddr t x i => simp only [ez] at h ⊢; rw [he x (by simp [Op.operands]), he i (by simp [Op.operands])]; exact h
 | index t x i => simp only [ez] at h ⊢; rw [he x (by simp [Op.operands]), he i (by simp [Op.operands])]; exact h
 | extract x i => simp only [ez] at h ⊢; rw [he x (by simp [Op.operands])]; exact h
 | call c =>
  obtain ⟨callee, args, at_⟩ := c
  have hargs : args.toList.map ev' = args.toList.map ev := List.map_congr_left fun x hx => he x (by simp only [Op.operands, Call.operands]; simp; exact .inr (by simpa using hx))
  simp only [ez] at h ⊢
  split at h
  ·split at h
   ·rename_i t x ht hx
    rw [hx] at hargs
    simp only [List.map_cons, List.map_nil, List.cons.injEq, and_true] at hargs
    rw [hargs]
    exact h
   ·exact h.elim
  ·rw [hargs]; exact h
  ·rw [hargs]; exact h
  ·exact h.elim
 | makeFunc fn first caps =>
  have hc : caps.toList.map ev' = caps.toList.map ev := List.map_congr_left fun x hx => he x (by simp only [Op.operands]; simp; exact .inr (by simpa using hx))
  cases fn with
  | func f =>
   simp only [ez] at h ⊢
   split at h
   ·rename_i e
    rw [hc]; exact h
   ·exact h.elim
  | _ => exact h.elim
 | _ => exact h.elim
end
end Go.Ev

namespace Go.Ev
open Go
section
variable {T : Tab} {P : Program} {G : bj}
theorem aht {ev : Operand → A} {d : Nat} {op : Op} {K : A → List A → Prop} (h : l4 T ev d op K) :
  ∃ r l, K r l ∧ ∀ (ev' : Operand → A) (K' : A → List A → Prop), (∀ x ∈ op.operands, ev' x = ev x) → K' r l → l4 T ev' d op K' := by
 unfold l4 at h
 split at h
 ·split at h
  ·rename_i y hy
   refine ⟨_, _, h.k, fun ev' K' he h' => ?_⟩
   simp only [l4, hy]
   exact ⟨h.c, h'⟩
  ·exact h.elim
 ·rename_i e x
  refine ⟨_, _, h.k, fun ev' K' he h' => ?_⟩
  simp only [l4]
  rw [he x (by simp [Op.operands])]
  exact ⟨h.c, h'⟩
 ·rename_i t l c
  unfold bh at h
  split at h
  ·rename_i y hy
   split at h
   ·rename_i e hk
    split at h
    ·rename_i ye hye
     split at h
     ·rename_i kl il kc ic e1 e2
      obtain ⟨h1, h2, h3, row, hrow, h4⟩ := h
      refine ⟨_, _, h4, fun ev' K' he h' => ?_⟩
      simp only [l4, bh, hy, hk, hye]
      rw [he l (by simp [Op.operands]), he c (by simp [Op.operands]), e1, e2]
      exact ⟨h1, h2, h3, row, hrow, h'⟩
     ·exact h.elim
    ·exact h.elim
   ·exact h.elim
  ·exact h.elim
 ·rename_i t len parts
  unfold bh at h
  split at h
  ·rename_i y hy
   split at h
   ·rename_i e hk
    split at h
    ·rename_i ye hye
     obtain ⟨h1, h⟩ := h
     obtain ⟨c, h2, h3⟩ := oy h
     refine ⟨_, _, h2, fun ev' K' he h' => ?_⟩
     simp only [l4, bh, hy, hk, hye]
     refine ⟨h1, ?_⟩
     rw [oc fun p hp => he p.2 (by simp only [Op.operands]; simp; exact ⟨p.1, by simpa using hp⟩)]
     exact h3 _ h'
    ·exact h.elim
   ·exact h.elim
  ·exact h.elim
 ·rename_i t x lo hi m
  split at h
  ·rename_i n cells ex
   unfold bh at h
   split at h
   ·rename_i y hy
    split at h
    ·rename_i e hk
     split at h
     ·rename_i ye hye
      split at h
      ·rename_i hi'
       obtain ⟨kh, km, e1, e2, hK⟩ := h
       refine ⟨_, _, hK, fun ev' K' he h' => ?_⟩
       simp only [l4]
       rw [he x (by simp [Op.operands]), ex]
       simp only [bh, hy, hk, hye]
       exact ⟨kh, km, by rw [he _ (by simp [Op.operands]), e1], by rw [he _ (by simp [Op.operands]), e2], h'⟩
      ·exact h.elim
     ·exact h.elim
    ·exact h.elim
   ·exact h.elim
  ·exact h.elim
 ·exact h.elim
theorem xm {hp : Nat → Option (Bool × List A)} {a : A} {K : D → List Nat → Prop} (h : e8 hp a K) :
  ∃ x bs, K x bs ∧ ((∀ b ∈ bs, ∃ (fr : Bool) (ds : List D), hp b = some (fr, ds.map A.d)) ∧ ∀ b ∈ bs, cb a b) ∧ ∀ (hp' : Nat → Option (Bool × List A)) (K' : D → List Nat → Prop), (∀ b, cb a b → ∀ fr l, hp b = some (fr, l) → ∃ fr', hp' b = some (fr', l)) → K' x bs → e8 hp' a K' := by
 unfold e8 at h
 split at h
 ·exact ⟨_, _, h, ⟨by simp, by simp⟩, fun hp' K' _ h' => h'⟩
 ·rename_i b o n sz
  split at h
  ·rename_i fr l hl
   obtain ⟨ds, hds, y, hy, hK⟩ := h
   refine ⟨_, _, hK, ⟨fun c hc => by simp at hc; subst hc; exact ⟨fr, ds, by rw [hl, hds]⟩, fun c hc => by simp at hc; subst hc; rfl⟩, fun hp' K' hh h' => ?_⟩
   obtain ⟨fr', hl'⟩ := hh b rfl fr l hl
   simp only [e8, hl']
   exact ⟨ds, hds, y, hy, h'⟩
  ·exact h.elim
 ·rename_i b o
  split at h
  ·rename_i fr l hl
   obtain ⟨ds, hds, hK⟩ := h
   refine ⟨_, _, hK, ⟨fun c hc => by simp at hc; subst hc; exact ⟨fr, ds, by rw [hl, hds]⟩, fun c hc => by simp at hc; subst hc; rfl⟩, fun hp' K' hh h' => ?_⟩
   obtain ⟨fr', hl'⟩ := hh b rfl fr l hl
   simp only [e8, hl']
   exact ⟨ds, hds, h'⟩
  ·exact h.elim
 ·exact ⟨_, _, h, ⟨by simp, by simp⟩, fun hp' K' _ h' => h'⟩
 ·exact h.elim
theorem pz {hp : Nat → Option (Bool × List A)} : ∀ {as : List A} {K : List D → List Nat → Prop}, ej hp as K →
  ∃ xs bs, K xs bs ∧ ((∀ b ∈ bs, ∃ (fr : Bool) (ds : List D), hp b = some (fr, ds.map A.d)) ∧ ∀ b ∈ bs, ∃ a ∈ as, cb a b) ∧ ∀ (hp' : Nat → Option (Bool × List A)) (K' : List D → List Nat → Prop), (∀ a ∈ as, ∀ b, cb a b → ∀ fr l, hp b = some (fr, l) → ∃ fr', hp' b = some (fr', l)) → K' xs bs → ej hp' as K'
 | [], K, h => ⟨[], [], h, ⟨by simp, by simp⟩, fun _ _ _ h' => h'⟩
 | a :: as, K, h => by
  simp only [ej] at h
  obtain ⟨x, bs, h, hb1, t1⟩ := xm h
  obtain ⟨xs, bs2, h, hb2, t2⟩ := pz h
  refine ⟨_, _, h, ⟨fun b hb => ?_, fun b hb => ?_⟩, fun hp' K' hh h' => ?_⟩
  ·rcases List.mem_append.1 hb with hb | hb
   ·exact hb1.1 b hb
   ·exact hb2.1 b hb
  ·rcases List.mem_append.1 hb with hb | hb
   ·exact ⟨a, by simp, hb1.2 b hb⟩
   ·obtain ⟨c, hc, hr⟩ := hb2.2 b hb
    exact ⟨c, by simp [hc], hr⟩
  ·simp only [ej]
   exact t1 hp' _ (hh a (by simp)) (t2 hp' _ (fun c hc => hh c (by simp [hc])) h')
theorem gv : ∀ {l : List A} {x : A} {b : Nat}, x ∈ l → cb x b → od l b
 | y :: l, x, b, h, hr => by
  rcases List.mem_cons.1 h with rfl | h
  ·exact .inl hr
  ·exact .inr (gv h hr)
theorem agr {hp : Nat → Option (Bool × List A)} {a : A} {K : D → List Nat → Prop} (h : gx hp a K) :
  ∃ x bs, K x bs ∧ ((∀ b ∈ bs, ∃ (fr : Bool) (ds : List D), hp b = some (fr, ds.map A.d)) ∧ ∀ b ∈ bs, cb a b) ∧ ∀ (hp' : Nat → Option (Bool × List A)) (K' : D → List Nat → Prop), (∀ b, cb a b → ∀ fr l, hp b = some (fr, l) → ∃ fr', hp' b = some (fr', l)) → K' x bs → gx hp' a K' := by
 unfold gx at h
 split at h
 ·rename_i l
  obtain ⟨xs, bs, hK, hb, t⟩ := pz h
  refine ⟨_, _, hK, ⟨hb.1, fun b hm => by obtain ⟨c, hc, hr⟩ := hb.2 b hm; simp only [cb]; exact gv hc hr⟩, fun hp' K' hh h' => ?_⟩
  simp only [gx]
  exact t hp' _ (fun x hx b hr => hh b (by simp only [cb]; exact gv hx hr)) h'
 ·rename_i f l
  obtain ⟨xs, bs, hK, hb, t⟩ := pz h
  refine ⟨_, _, hK, ⟨hb.1, fun b hm => by obtain ⟨c, hc, hr⟩ := hb.2 b hm; simp only [cb]; exact gv hc hr⟩, fun hp' K' hh h' => ?_⟩
  simp only [gx]
  exact t hp' _ (fun x hx b hr => hh b (by simp only [cb]; exact gv hx hr)) h'
 ·rename_i hne hne2
  obtain ⟨x, bs, hK, hb, t⟩ := xm h
  refine ⟨x, bs, hK, hb, fun hp' K' hh h' => ?_⟩
  have := t hp' K' hh h'
  cases a <;> first | exact (hne _ rfl).elim | exact (hne2 _ _ rfl).elim | simpa only [gx] using this
theorem rq {hp : Nat → Option (Bool × List A)} : ∀ {as : List A} {K : List D → List Nat → Prop}, jb hp as K →
  ∃ xs bs, K xs bs ∧ ((∀ b ∈ bs, ∃ (fr : Bool) (ds : List D), hp b = some (fr, ds.map A.d)) ∧ ∀ b ∈ bs, ∃ a ∈ as, cb a b) ∧ ∀ (hp' : Nat → Option (Bool × List A)) (K' : List D → List Nat → Prop), (∀ a ∈ as, ∀ b, cb a b → ∀ fr l, hp b = some (fr, l) → ∃ fr', hp' b = some (fr', l)) → K' xs bs → jb hp' as K'
 | [], K, h => ⟨[], [], h, ⟨by simp, by simp⟩, fun _ _ _ h' => h'⟩
 | a :: as, K, h => by
  simp only [jb] at h
  obtain ⟨x, bs, h, hb1, t1⟩ := agr h
  obtain ⟨xs, bs2, h, hb2, t2⟩ := rq h
  refine ⟨_, _, h, ⟨fun b hb => ?_, fun b hb => ?_⟩, fun hp' K' hh h' => ?_⟩
  ·rcases List.mem_append.1 hb with hb | hb
   ·exact hb1.1 b hb
   ·exact hb2.1 b hb
  ·rcases List.mem_append.1 hb with hb | hb
   ·exact ⟨a, by simp, hb1.2 b hb⟩
   ·obtain ⟨c, hc, hr⟩ := hb2.2 b hb
    exact ⟨c, by simp [hc], hr⟩
  ·simp only [jb]
   exact t1 hp' _ (hh a (by simp)) (t2 hp' _ (fun c hc => hh c (by simp [hc])) h')
theorem afg {σ : St} {op : Op} {K : A → St → Prop} (h : lf P G σ op K) :
  ∃ (fresh : Bool) (r : D) (bs : List Nat), K (.d r) (if fresh then σ else σ.freeze bs) ∧ ((∀ b ∈ bs, ∃ (fr : Bool) (ds : List D), σ.hp b = some (fr, ds.map A.d)) ∧ ∀ b ∈ bs, ∃ x ∈ op.operands, cb (σ.ev G x) b) ∧ ∀ (σ' : St) (K' : A → St → Prop), (∀ x ∈ op.operands, σ'.ev G x = σ.ev G x) →
   (∀ x ∈ op.operands, ∀ b, cb (σ.ev G x) b → ∀ fr l, σ.hp b = some (fr, l) → ∃ fr', σ'.hp b = some (fr', l)) → K' (.d r) (if fresh then σ' else σ'.freeze bs) → lf P G σ' op K' := by
 unfold lf at h
 split at h
 ·rename_i c
  obtain ⟨callee, args, at_⟩ := c
  simp only at h
  split at h
  ·rename_i f
   obtain ⟨xs, bs, h, hb, t⟩ := rq h
   obtain ⟨fresh, r, hs, hK⟩ := h
   have hmem : ∀ x ∈ args.toList, x ∈ (Op.call ⟨.value (.func f), args, at_⟩).operands := fun x hx => by
    simp only [Op.operands, Call.operands]; simp; exact .inr (by simpa using hx)
   refine ⟨fresh, r, bs, hK, ⟨hb.1, fun b hm => ?_⟩, fun σ' K' he hh h' => ?_⟩
   ·obtain ⟨a, ha, hr⟩ := hb.2 b hm
    obtain ⟨x, hx, rfl⟩ := List.mem_map.1 ha
    exact ⟨x, hmem x hx, hr⟩
   simp only [lf]
   have hargs : args.toList.map (σ'.ev G) = args.toList.map (σ.ev G) := List.map_congr_left fun x hx => he x (hmem x hx)
   rw [hargs]
   refine t σ'.hp _ (fun a ha b hr fr l hl => ?_) ⟨fresh, r, hs, h'⟩
   obtain ⟨x, hx, rfl⟩ := List.mem_map.1 ha
   exact hh x (hmem x hx) b hr fr l hl
  ·rename_i x hnf
   split at h
   ·rename_i f cs e
    obtain ⟨xs, bs, h, hb, t⟩ := rq h
    obtain ⟨fresh, r, hs, hK⟩ := h
    have hmem : ∀ y ∈ args.toList, y ∈ (Op.call ⟨.value x, args, at_⟩).operands := fun y hy => by
     simp only [Op.operands, Call.operands]; simp; exact .inr (by simpa using hy)
    have hmx : x ∈ (Op.call ⟨.value x, args, at_⟩).operands := by
     simp only [Op.operands, Call.operands]; simp
    refine ⟨fresh, r, bs, hK, ⟨hb.1, fun b hm => ?_⟩, fun σ' K' he hh h' => ?_⟩
    ·obtain ⟨a, ha, hr⟩ := hb.2 b hm
     rcases List.mem_append.1 ha with ha | ha
     ·obtain ⟨y, hy, rfl⟩ := List.mem_map.1 ha
      exact ⟨y, hmem y hy, hr⟩
     ·exact ⟨x, hmx, by rw [e]; simp only [cb]; exact gv ha hr⟩
    have hargs : args.toList.map (σ'.ev G) = args.toList.map (σ.ev G) := List.map_congr_left fun x hx => he x (hmem x hx)
    have e' : σ'.ev G x = .fn f cs := by rw [he x hmx, e]
    unfold lf
    cases x with
    | func g => exact (hnf g rfl).elim
    | _ =>
     simp only [e']
     rw [hargs]
     refine t σ'.hp _ (fun a ha b hr fr l hl => ?_) ⟨fresh, r, hs, h'⟩
     rcases List.mem_append.1 ha with ha | ha
     ·obtain ⟨y, hy, rfl⟩ := List.mem_map.1 ha
      exact hh y (hmem y hy) b hr fr l hl
     ·exact hh _ hmx b (by rw [e]; simp only [cb]; exact gv ha hr) fr l hl
   ·exact h.elim
  ·exact h.elim
 ·exact h.elim
structure Eqv (σ' σ : St) : Prop where
 n : σ'.n = σ.n
 get : ∀ t, σ'.get t = σ.get t
 ct : ∀ b, (lk σ'.heap b).map (·.2) = (lk σ.heap b).map (·.2)
 fl : ∀ b l, lk σ.heap b = some (false, l) → ∃ l', lk σ'.heap b = some (false, l')
theorem Eqv.refl (σ : St) : Eqv σ σ := ⟨rfl, fun _ => rfl, fun _ => rfl, fun _ l h => ⟨l, h⟩⟩
theorem Eqv.ev {σ' σ : St} (h : Eqv σ' σ) (x : Operand) : σ'.ev G x = σ.ev G x := by
 cases x with
 | tmp t => exact h.get t
 | _ => rfl
theorem Eqv.hp {σ' σ : St} (h : Eqv σ' σ) {b : Nat} {fr : Bool} {l : List A} (hl : σ.hp b = some (fr, l)) : ∃ fr', σ'.hp b = some (fr', l) := by
 have := h.ct b
 have hl' : lk σ.heap b = some (fr, l) := hl
 rw [hl'] at this
 simp only [Option.map_some, Option.map_eq_some_iff] at this
 obtain ⟨y, hy, e⟩ := this
 obtain ⟨fr', l'⟩ := y
 exact ⟨fr', by rw [← e]; exact hy⟩
theorem Eqv.hpf {σ' σ : St} (h : Eqv σ' σ) {b : Nat} {l : List A} (hl : σ.hp b = some (false, l)) : σ'.hp b = some (false, l) := by
 obtain ⟨l', h1⟩ := h.fl b l hl
 obtain ⟨fr', h2⟩ := h.hp hl
 have : lk σ'.heap b = some (fr', l) := h2
 rw [h1] at this
 simp only [Option.some.injEq, Prod.mk.injEq] at this
 show lk σ'.heap b = some (false, l)
 rw [h1, this.2]
theorem Eqv.hpn {σ' σ : St} (h : Eqv σ' σ) {b : Nat} (hl : σ.hp b = none) : σ'.hp b = none := by
 have := h.ct b
 have hl' : lk σ.heap b = none := hl
 rw [hl'] at this
 simpa [St.hp] using this
theorem Eqv.wr {σ' σ : St} (h : Eqv σ' σ) (b : Nat) (l : List A) : Eqv (σ'.wr b l) (σ.wr b l) := by
 refine ⟨h.n, h.get, fun c => ?_, fun c l' hl' => ?_⟩
 ·simp only [St.wr, du]
  split
  ·rename_i e
   subst e
   have := h.ct c
   cases h1 : lk σ.heap c <;> cases h2 : lk σ'.heap c <;> simp_all
  ·exact h.ct c
 ·simp only [St.wr, du] at hl' ⊢
  split at hl'
  ·rename_i e
   subst e
   rw [if_pos rfl]
   simp only [Option.map_eq_some_iff] at hl' ⊢
   obtain ⟨y, hy, e⟩ := hl'
   obtain ⟨fr, l2⟩ := y
   simp only [Prod.mk.injEq] at e
   obtain ⟨e1, e2⟩ := e
   subst e1
   obtain ⟨l3, h3⟩ := h.fl c l2 hy
   exact ⟨l, (false, l3), h3, rfl⟩
  ·rename_i e
   rw [if_neg e]
   exact h.fl c l' hl'
theorem vn (σ : St) (b t : Nat) : (σ.kill b).get t = (σ.get t).kill b := by
 simp only [St.get, St.kill, uc]
 cases lk σ.env t <;> rfl
theorem Eqv.kill {σ' σ : St} (h : Eqv σ' σ) (b : Nat) : Eqv (σ'.kill b) (σ.kill b) := by
 refine ⟨h.n, fun t => by rw [vn, vn, h.get], fun c => ?_, fun c l hl => ?_⟩
 ·simp only [St.kill, dp, Option.map_map]
  have := h.ct c
  cases h1 : lk σ.heap c <;> cases h2 : lk σ'.heap c <;> simp_all
 ·simp only [St.kill, dp, Option.map_eq_some_iff] at hl ⊢
  obtain ⟨y, hy, e⟩ := hl
  obtain ⟨fr, l2⟩ := y
  simp only [Prod.mk.injEq] at e
  obtain ⟨e1, e2⟩ := e
  subst e1
  obtain ⟨l3, h3⟩ := h.fl c l2 hy
  exact ⟨_, (false, l3), h3, rfl⟩
theorem Eqv.new {σ' σ : St} (h : Eqv σ' σ) (d : Nat) (l : List A) : Eqv (σ'.new d l) (σ.new d l) := by
 refine ⟨h.n, h.get, fun c => ?_, fun c l' hl => ?_⟩
 ·simp only [St.new, lk]
  split
  ·rfl
  ·exact h.ct c
 ·simp only [St.new, lk] at hl ⊢
  split at hl
  ·rename_i e; rw [if_pos e]; exact ⟨l, rfl⟩
  ·rename_i e; rw [if_neg e]; exact h.fl c l' hl
theorem bl (σ : St) (d t : Nat) (r : A) : (σ.put (some d) r).get t = if d = t then r else σ.get t := by
 simp only [St.get, St.put, lk]
 split <;> rfl
theorem Eqv.put {σ' σ : St} (h : Eqv σ' σ) (d : Option Nat) (r : A) : Eqv (σ'.put d r) (σ.put d r) := by
 cases d with
 | none => exact h
 | some d => exact ⟨h.n, fun t => by rw [bl, bl, h.get], h.ct, h.fl⟩
theorem Eqv.trans {a b c : St} (h : Eqv a b) (k : Eqv b c) : Eqv a c :=
 ⟨h.n.trans k.n, fun t => (h.get t).trans (k.get t), fun b => (h.ct b).trans (k.ct b), fun b l hl => let ⟨l', h1⟩ := k.fl b l hl; h.fl b l' h1⟩
theorem ny (σ : St) (bs : List Nat) : (σ.freeze bs).n = σ.n := by cases bs <;> rfl
theorem acr (σ : St) (bs : List Nat) : (σ.freeze bs).env = σ.env := by cases bs <;> rfl
theorem cx (σ : St) (bs : List Nat) (b : Nat) : lk (σ.freeze bs).heap b = (lk σ.heap b).map fun x => (x.1 || bs.contains b, x.2) := by
 cases bs with
 | nil => simp [St.freeze]
 | cons b0 bs => exact r6 _ _ _
theorem jd (σ : St) (bs : List Nat) (t : Nat) : (σ.freeze bs).get t = σ.get t := by simp only [St.get, acr]
theorem Eqv.freeze {σ' σ : St} (h : Eqv σ' σ) (bs : List Nat) : Eqv (σ'.freeze bs) (σ.freeze bs) := by
 refine ⟨by rw [ny, ny, h.n], fun t => by rw [jd, jd, h.get], fun b => ?_, fun b l hl => ?_⟩
 ·rw [cx, cx, Option.map_map, Option.map_map]
  have := h.ct b
  cases h1 : lk σ.heap b <;> cases h2 : lk σ'.heap b <;> simp_all
 ·rw [cx] at hl ⊢
  simp only [Option.map_eq_some_iff] at hl ⊢
  obtain ⟨y, hy, e⟩ := hl
  obtain ⟨fr, l2⟩ := y
  simp only [Prod.mk.injEq, Bool.or_eq_false_iff] at e
  obtain ⟨⟨e1, e2⟩, e3⟩ := e
  subst e1
  obtain ⟨l3, h3⟩ := h.fl b l2 hy
  exact ⟨l3, (false, l3), h3, by simp only [e2, Bool.or_self]⟩
theorem y9 {hp : Nat → Option (Bool × List A)} {sz : Nat} {x : A} {K : Nat → List D → Prop} (h : ei hp sz x K) :
  ∃ n l, K n l ∧ ∀ (hp' : Nat → Option (Bool × List A)) (K' : Nat → List D → Prop), (∀ b fr l, hp b = some (fr, l) → ∃ fr', hp' b = some (fr', l)) → K' n l → ei hp' sz x K' := by
 unfold ei at h
 split at h
 ·exact ⟨_, _, h.k, fun _ _ _ h' => ⟨h.c, h'⟩⟩
 ·exact ⟨_, _, h, fun _ _ _ h' => h'⟩
 ·exact ⟨_, _, h.k, fun _ _ _ h' => ⟨h.c, h'⟩⟩
 ·rename_i b o n sz'
  split at h
  ·rename_i fr l hl
   obtain ⟨ds, hds, h1, h2, hK⟩ := h
   refine ⟨_, _, hK, fun hp' K' hh h' => ?_⟩
   obtain ⟨fr', hl'⟩ := hh b fr l hl
   simp only [ei, hl']
   exact ⟨ds, hds, h1, h2, h'⟩
  ·exact h.elim
 ·exact h.elim
def FD (σ : St) : Prop := ∀ b l, lk σ.heap b = some (true, l) → ∃ ds : List D, l = ds.map A.d
theorem akp {σ : St} {d : Option Nat} {op : Op} {K : A → St → Prop} (h : ma T G σ d op K) :
  ∃ r τ, K r τ ∧ (τ.n = σ.n ∧ (∀ b l, lk σ.heap b = some (true, l) → ∃ l', lk τ.heap b = some (true, l')) ∧ (∀ b, lk σ.heap b ≠ none → lk τ.heap b ≠ none) ∧ (FD σ → FD τ)) ∧ ∀ (σ' : St) (K' : A → St → Prop), Eqv σ' σ → (∀ τ', Eqv τ' τ → K' r τ') → ma T G σ' d op K' := by
 have hwr : ∀ (σ : St) (b : Nat) (l l0 : List A), lk σ.heap b = some (false, l0) → (σ.wr b l).n = σ.n ∧ (∀ c l1, lk σ.heap c = some (true, l1) → ∃ l', lk (σ.wr b l).heap c = some (true, l')) ∧ (∀ c, lk σ.heap c ≠ none → lk (σ.wr b l).heap c ≠ none) ∧ (FD σ → FD (σ.wr b l)) := by
  intro σ b l l0 hlive
  refine ⟨rfl, fun c l1 h => ?_, fun c h => ?_, fun hfd c l1 h => ?_⟩
  ·simp only [St.wr, du]
   split
   ·rw [h]; exact ⟨l, rfl⟩
   ·exact ⟨l1, h⟩
  ·simp only [St.wr, du]
   split
   ·intro e; exact h (by simpa using e)
   ·exact h
  ·simp only [St.wr, du] at h
   split at h
   ·rename_i e
    subst e
    rw [hlive] at h
    cases h
   ·exact hfd c l1 h
 have hki : ∀ (σ : St) (b : Nat), (σ.kill b).n = σ.n ∧ (∀ c l1, lk σ.heap c = some (true, l1) → ∃ l', lk (σ.kill b).heap c = some (true, l')) ∧ (∀ c, lk σ.heap c ≠ none → lk (σ.kill b).heap c ≠ none) ∧ (FD σ → FD (σ.kill b)) := by
  intro σ b
  refine ⟨rfl, fun c l1 h => ?_, fun c h => ?_, fun hfd c l1 h => ?_⟩
  ·simp only [St.kill, dp, h]; exact ⟨_, rfl⟩
  ·simp only [St.kill, dp]; intro e; exact h (by simpa using e)
  ·simp only [St.kill, dp, Option.map_eq_some_iff] at h
   obtain ⟨y, hy, e⟩ := h
   obtain ⟨fr, l2⟩ := y
   cases e
   obtain ⟨ds, rfl⟩ := hfd c l2 hy
   exact ⟨ds, by simp⟩
 unfold ma at h
 split at h
 ·rename_i t a x
  split at h
  ·rename_i b o ea
   split at h
   ·rename_i l y hl hy
    obtain ⟨h1, h2, h3, h4, row, hrow, hK⟩ := h
    refine ⟨_, _, hK, hwr _ _ _ l hl, fun σ' K' he h' => ?_⟩
    simp only [ma]
    rw [he.ev a, ea]
    simp only [he.hpf hl, hy, he.ev x]
    exact ⟨h1, h2, h3, h4, row, hrow, h' _ (he.wr b _)⟩
   ·exact h.elim
  ·exact h.elim
 ·rename_i c
  split at h
  ·rename_i t t2 s x d' hcal hat har
   unfold bh at h
   split at h
   ·rename_i y hy
    split at h
    ·rename_i e hk
     split at h
     ·rename_i ye hye
      obtain ⟨h1, h⟩ := h
      obtain ⟨n, l, h, t⟩ := y9 h
      obtain ⟨h2, h⟩ := h
      have key : ∃ r τ, K r τ ∧ (τ.n = σ.n ∧ (∀ b l, lk σ.heap b = some (true, l) → ∃ l', lk τ.heap b = some (true, l')) ∧ (∀ b, lk σ.heap b ≠ none → lk τ.heap b ≠ none) ∧ (FD σ → FD τ)) ∧ ∀ (σ' : St) (K' : A → St → Prop), Eqv σ' σ → (∀ τ', Eqv τ' τ → K' r τ') → (match σ'.ev G s with
        | .d .nil => Cd (n * ye.bytes ≤ 70368744177664) (Cd ((σ'.hp d').isNone = true) (EqE (l.map A.d) fun row => K' (.own d' 0 n ye.size) (σ'.new d' row)))
        | .own b o n' sz => match σ'.hp b with
         | some (false, l') => Cd (abk b o = 0 ∧ sz = ye.size) (Cd (l'.length = n' * sz) (Cd ((n' + n) * ye.bytes ≤ 70368744177664) (DsE l' fun _ => EqE (l' ++ l.map A.d) fun row => K' (.own b 0 (n' + n) sz) ((σ'.kill b).wr b row))))
         | _ => False
        | _ => False) := by
       split at h
       ·rename_i es
        obtain ⟨h3, h4, row, hrow, hK⟩ := h
        have hdn : lk σ.heap d' = none := by simpa [St.hp] using h4
        refine ⟨_, _, hK, ⟨rfl, fun c l1 hc => ?_, fun c hc => ?_, fun hfd c l1 hc => ?_⟩, fun σ' K' he h' => ?_⟩
        ·simp only [St.new, lk]
         rw [if_neg (fun e => by rw [e, hc] at hdn; cases hdn)]
         exact ⟨l1, hc⟩
        ·simp only [St.new, lk]
         split
         ·simp
         ·exact hc
        ·simp only [St.new, lk] at hc
         split at hc
         ·cases hc
         ·exact hfd c l1 hc
        rw [he.ev s, es]
        have : σ.hp d' = none := by simpa using h4
        exact ⟨h3, by rw [he.hpn this]; rfl, row, hrow, h' _ (he.new d' _)⟩
       ·rename_i b o n' sz es
        split at h
        ·rename_i l' hl'
         obtain ⟨h3, h4, h5, ds, hds, row, hrow, hK⟩ := h
         have hkl : lk (σ.kill b).heap b = some (false, A.ew b l') := by
          have : lk σ.heap b = some (false, l') := hl'
          simp only [St.kill, dp, this]; rfl
         refine ⟨_, _, hK, ⟨rfl, fun c l1 hc => ?_, fun c hc => ?_, fun hfd => (hwr _ _ _ _ hkl).2.2.2 ((hki σ b).2.2.2 hfd)⟩, fun σ' K' he h' => ?_⟩
         ·obtain ⟨l2, h6⟩ := (hki σ b).2.1 c l1 hc
          exact (hwr _ _ _ _ hkl).2.1 c l2 h6
         ·exact (hwr _ _ _ _ hkl).2.2.1 c ((hki σ b).2.2.1 c hc)
         rw [he.ev s, es]
         simp only [he.hpf hl']
         exact ⟨h3, h4, h5, ds, hds, row, hrow, h' _ ((he.kill b).wr b _)⟩
        ·exact h.elim
       ·exact h.elim
      obtain ⟨r, τ, hK, hmono, hk'⟩ := key
      refine ⟨r, τ, hK, hmono, fun σ' K' he h' => ?_⟩
      simp only [ma, hcal, hat, har, bh, hy, hk, hye]
      refine ⟨h1, ?_⟩
      rw [he.ev x]
      exact t σ'.hp _ (fun b fr l hl => he.hp hl) ⟨h2, hk' σ' K' he h'⟩
     ·exact h.elim
    ·exact h.elim
   ·exact h.elim
  ·exact h.elim
 ·exact h.elim
end
end Go.Ev
