/- Contracts of the given functions, on data. Conditions stand in each theorem. -/
import Derived.Test.YtagjickjfjgfpaaGreatDoorGEvY
import Derived.Test.YtagjickjfjgfpaaGreatDoorGEvQ
set_option linter.unusedSimpArgs false
set_option linter.unusedVariables false
namespace Go.Ev
open Go
section
variable {P : Program} {G : Glob} {T : Tab} {w0 : World} {M : Own} {S0 : Imm} {σ : St} {a : Act} {w w' : World} {β : Own} {S : Imm}
/-- Of new memory less is told. -/
theorem SimA.shrink {f : FuncId} {args : List A} {hin : Hp} {r : A} {t : Nat} {l : List A} (n : Nat) (h : SimA P G f args hin r [(t, false, l)]) : SimA P G f args hin r [(t, false, l.take n)] := by
  refine ⟨h.can, h.refArgs, h.refIn, h.refRes, ?_, fun S w β vs h1 h2 => ?_⟩
  · intro x hx
    simp only [List.mem_cons, List.not_mem_nil, or_false] at hx
    subst hx
    have := h.refOut _ (List.mem_singleton.2 rfl)
    simp only at this ⊢
    have key : ∀ (l : List A) (n : Nat), A.refsIns [t] l = true → A.refsIns [t] (l.take n) = true := by
      intro l
      induction l with
      | nil => intro n _; simp [A.refsIns]
      | cons x l ih =>
        intro n hl
        cases n with
        | zero => rfl
        | succ n =>
          simp only [A.refsIns, Bool.and_eq_true, List.take_succ_cons] at hl ⊢
          exact ⟨hl.1, ih n hl.2⟩
    exact key l n this
  · refine Calls.mono (h.run S w β vs h1 h2) ?_
    rintro e w' ⟨v, β', S', rfl, hr, hR⟩
    refine ⟨v, β', S', rfl, ?_, hR⟩
    have hl : ∀ b fr l1, lk [(t, false, l.take n)] b = some (fr, l1) → lk [(t, false, l)] b = some (fr, l) ∧ l1 = l.take n := by
      intro b fr l1 h
      simp only [lk] at h ⊢
      split at h
      · rename_i e; rw [if_pos e]; cases h; exact ⟨rfl, rfl⟩
      · cases h
    refine { hr with env := fun t x hx => by simp [St.mem, lk] at hx, keys := ?_, rd := ?_, live := ?_, froz := ?_, fd := ?_, nilb := ?_, stay := ?_ }
    · intro b hb
      have := hr.keys b hb
      simp only [St.mem, lk] at this ⊢
      split
      · simp
      · rename_i e; rw [if_neg e] at this; exact absurd rfl this
    · intro b k fr l1 hb hl1
      obtain ⟨h3, rfl⟩ := hl b fr l1 hl1
      obtain ⟨C, Tc, hC, hlen, hcell⟩ := hr.rd b k fr l hb h3
      refine ⟨C, Tc, hC, by rw [List.length_take]; omega, fun j x hx => ?_⟩
      rw [List.getElem?_take] at hx
      split at hx
      · exact hcell j x hx
      · cases hx
    · intro b k l1 hb hl1
      exact hr.live b k l hb (hl b _ l1 hl1).1
    · intro b k l1 hb hl1
      exfalso
      have := (hl b _ l1 hl1).1
      simp only [lk] at this
      split at this <;> cases this
    · intro b l1 hl1
      exfalso
      have := (hl b _ l1 hl1).1
      simp only [lk] at this
      split at this <;> cases this
    · intro b fr l1 hb hl1
      obtain ⟨h3, rfl⟩ := hl b fr l1 hl1
      rw [hr.nilb b fr l hb h3]; simp
    · intro b h1 h2 hb
      refine hr.stay b h1 h2 ?_
      simp only [St.mem, lk] at hb ⊢
      split
      · simp
      · rename_i e; rw [if_neg e] at hb; exact absurd rfl hb
end
/-- A row is known by its length and its number. -/
theorem nv_inj_len : ∀ {a b : List UInt32}, a.length = b.length → nv a = nv b → a = b
  | [], [], _, _ => rfl
  | [], y :: b, h, _ => by simp at h
  | x :: a, [], h, _ => by simp at h
  | x :: a, y :: b, h, hn => by
    rw [nv_cons, nv_cons] at hn
    have h1 := u32_lt x
    have h2 := u32_lt y
    have e1 : x.toNat = y.toNat := by omega
    rw [UInt32.toNat_inj.1 e1, nv_inj_len (a := a) (b := b) (by simpa using h) (by omega)]
/-- A number's row, of so many limbs. -/
def padN (n k : Nat) : List UInt32 := ofN n ++ List.replicate (k - (ofN n).length) 0
theorem padN_len {n k : Nat} (h : n < Pw k) : (padN n k).length = k := by
  have := ofN_len_le.2 h
  unfold padN; simp; omega
theorem nv_padN (n k : Nat) : nv (padN n k) = n := by unfold padN; rw [nv_append, nv_ofN, nv_replicate]; omega
theorem padN_of {l : List UInt32} {n k : Nat} (h1 : l.length = k) (h2 : nv l = n) : l = padN n k :=
  nv_inj_len (by rw [padN_len (by rw [← h2, ← h1]; exact nv_lt l), h1]) (by rw [nv_padN, h2])
theorem padN_take (n k : Nat) : (padN n k).take (ofN n).length = ofN n := by unfold padN; simp
theorem la_getA (A W : List UInt32) (i : Int) (j : Nat) (e : i = j) (hj : j < W.length) : (la (A ++ W))[A.length + i.toNat * 1]? = some (.d (.int .u32 (W.getD j 0).toNat)) := by
  subst e
  rw [Int.toNat_natCast, Nat.mul_one, la_get (A ++ W) _ _ rfl (by simp; omega)]
  rw [List.getD_eq_getElem?_getD, List.getElem?_append_right (by omega), Nat.add_sub_cancel_left, ← List.getD_eq_getElem?_getD]
theorem la_setA (A W : List UInt32) (i : Int) (j v : Nat) (e : i = j) (hj : j < W.length) (hv : v < 4294967296) : setAt (la (A ++ W)) (A.length + i.toNat * 1) (Ev.A.d (.int .u32 (v : Nat))).cells = la (A ++ W.set j (UInt32.ofNat v)) := by
  subst e
  rw [Int.toNat_natCast, Nat.mul_one, la_setN (A ++ W) _ (A.length + j) v rfl (by simp; omega) hv]
  rw [List.set_append_right _ _ (by omega), Nat.add_sub_cancel_left]
theorem limbs_at (l : List UInt32) (i : Int) (j : Nat) (e : i = j) (hj : j < l.length) : ((limbs l).drop (i.toNat * 1))[0]? = some (.int .u32 (l.getD j 0).toNat) := by
  subst e
  exact limbs_drop l _ (by simpa using hj)
theorem n_orhi (x y : Nat) (hx : x < 4294967296) (hy : y < 4294967296) : IntKind.u64.wrap (BitVec.ofInt IntKind.u64.bits ((x * 4294967296 : Nat) : Int) ||| BitVec.ofInt IntKind.u64.bits (y : Int)).toNat = ((x * 4294967296 + y : Nat) : Int) := by
  rw [n_or _ _ (by omega) (by omega)]
  congr 1
  exact or_add (x := x) (c := y) (s := 32) (by omega)
theorem n_quo64 (x y : Nat) (hx : x < 18446744073709551616) : IntKind.u64.wrap ((x : Int).tdiv y) = ((x / y : Nat) : Int) := by
  rw [Int.tdiv_eq_ediv_of_nonneg (by omega), ← Int.natCast_ediv]
  have := Nat.div_le_self x y
  generalize x / y = z at *
  exact wrap_u64 (by omega) (by omega)
theorem mul_lt64 {x y : Nat} (hx : x < 4294967296) (hy : y < 4294967296) : x * y < 18446744073709551616 := by
  have : x * y ≤ 4294967295 * 4294967295 := Nat.mul_le_mul (by omega) (by omega)
  omega
theorem n_subN (x y : Nat) (h : y ≤ x) (hx : x < 18446744073709551616) : IntKind.u64.wrap (↑x - ↑y) = ((x - y : Nat) : Int) := by
  rw [wrap_u64 (by omega) (by omega)]; omega
theorem n_sub1 (x : Nat) (h : 1 ≤ x) (hx : x < 18446744073709551616) : IntKind.u64.wrap (↑x - 1) = ((x - 1 : Nat) : Int) := by
  rw [wrap_u64 (by omega) (by omega)]; omega
theorem n_add32 (x y : Nat) : IntKind.u32.wrap (↑x + ↑y) = (((x + y) % 4294967296 : Nat) : Int) := by rw [wrap_u32]; omega
/-- Wp' of one after another. -/
theorem wps_seq {P : Program} {G : Glob} {T : Tab} (hT : TabOk P T) {a b : Code} {Q : Exit → St → Prop} {n : Nat} {env : List (Nat × A)} {heap : Hp}
    (h : awp P G T a (fun e σ' => match e with | .normal => σ'.n = n → Wp' P G b Q σ' | e => Q e σ') ⟨n, env, heap⟩) : Wp' P G (.seq a b) Q ⟨n, env, heap⟩ := by
  intro w0 M S0 a' w β S hr
  refine wp_seq (wp_mono (awp_sound hT a _ _ h w0 M S0 a' w β S hr) ?_)
  rintro e a2 w2 ⟨σ', β', S', hq, hr', hn⟩
  cases e with
  | normal =>
    simp only [Exit.then]
    have := hq hn w0 M S0 a2 w2 β' S' hr'
    rw [hn] at this
    exact this
  | _ => exact ⟨σ', β', S', hq, hr', hn⟩
/-- Of the state less is kept. -/
theorem wps_cut {P : Program} {G : Glob} {c : Code} {Q : Exit → St → Prop} {n : Nat} {env : List (Nat × A)} {heap : Hp} (L ks : List Nat) (xs : List A) (h : Hp) (hc : St.cut ⟨n, env, heap⟩ L ks xs h)
    (hw : Wp' P G c Q ⟨n, L.zip xs, h⟩) : Wp' P G c Q ⟨n, env, heap⟩ := by
  intro w0 M S0 a w β S hr
  exact hw w0 M S0 a w _ S (hr.cut hc)
theorem wps_mono {P : Program} {G : Glob} {c : Code} {Q Q' : Exit → St → Prop} {σ : St} (h : ∀ e σ', Q e σ' → Q' e σ') (hw : Wp' P G c Q σ) : Wp' P G c Q' σ := by
  intro w0 M S0 a w β S hr
  refine wp_mono (hw w0 M S0 a w β S hr) ?_
  rintro e a' w' ⟨σ', β', S', hq, hr', hn⟩
  exact ⟨σ', β', S', h e σ' hq, hr', hn⟩
/-- A scope with one label, in parts. -/
theorem wp_scopeW {P : Program} {G : Glob} {c rest : Code} {Q : Exit → St → Prop} {n : Nat} {env : List (Nat × A)} {heap : Hp} (l : Nat) (hl : findLabel c l = some rest) (L ks : List Nat) (I : Nat → List A → Hp → Prop)
    (h1 : Wp' P G c (fun e σ' => match e with | .goto l' => Cd (l' = l) (LoopAt I L ks σ') | e => Q e σ') ⟨n, env, heap⟩)
    (h2 : ∀ m xs h, I m xs h → Wp' P G rest (fun e σ' => match e with | .goto l' => Cd (l' = l) (LoopEnd I m L ks σ') | e => Q e σ') ⟨n, L.zip xs, h⟩) : Wp' P G (.scope c) Q ⟨n, env, heap⟩ := by
  intro w0 M S0 a w β S hr b k cs
  have hg : gotoIn l (.inScope c :: k) = some (.code rest :: .inScope c :: k) := by simp [gotoIn, hl]
  have key : ∀ m a w xs hh β S, I m xs hh → Rel G w0 M S0 (St.at n L xs hh) a w β S →
      ∃ e a' w', Post G w0 M S0 n (Q e) a' w' ∧ Arrives P (lone (b.at a (.code rest :: .inScope c :: k)) cs w) b k cs e a' w' := by
    intro m
    induction m using Nat.strongRecOn with
    | _ m ih =>
      intro a w xs hh β S hI hr
      obtain ⟨e, a₁, w₁, ⟨σ', β', S', hq, hr', hn⟩, harr⟩ := h2 m xs hh hI w0 M S0 a w β S hr b (.inScope c :: k) cs
      cases e with
      | normal => exact ⟨.normal, a₁, w₁, ⟨σ', β', S', hq, hr', hn⟩, Steps.trans harr (.one step_inScope)⟩
      | exit id => exact ⟨.exit id, a₁, w₁, ⟨σ', β', S', hq, hr', hn⟩, fun k' hk => harr k' (by simp [exitTo, hk])⟩
      | goto l' =>
        obtain ⟨rfl, m', xs', h', hcut', hlt, hI'⟩ := hq
        have hr2 := hr'.cut hcut'
        rw [hn] at hr2
        obtain ⟨e₂, a₂, w₂, hq₂, harr₂⟩ := ih m' hlt a₁ w₁ xs' h' _ S' hI' hr2
        exact ⟨e₂, a₂, w₂, hq₂, .of_steps (harr _ hg) harr₂⟩
      | ret => exact ⟨_, a₁, w₁, ⟨σ', β', S', hq, hr', hn⟩, harr⟩
      | panic ch => exact ⟨_, a₁, w₁, ⟨σ', β', S', hq, hr', hn⟩, harr⟩
      | outgrown => exact ⟨_, a₁, w₁, ⟨σ', β', S', hq, hr', hn⟩, harr⟩
  obtain ⟨e, a₁, w₁, ⟨σ', β', S', hq, hr', hn⟩, harr⟩ := h1 w0 M S0 a w β S hr b (.inScope c :: k) cs
  cases e with
  | normal => exact ⟨.normal, a₁, w₁, ⟨σ', β', S', hq, hr', hn⟩, .head step_scope (Steps.trans harr (.one step_inScope))⟩
  | exit id => exact ⟨.exit id, a₁, w₁, ⟨σ', β', S', hq, hr', hn⟩, fun k' hk => .head step_scope (harr k' (by simp [exitTo, hk]))⟩
  | goto l' =>
    obtain ⟨rfl, m, xs, hh, hcut, hI⟩ := hq
    have hr2 := hr'.cut hcut
    rw [hn] at hr2
    obtain ⟨e₂, a₂, w₂, hq₂, harr₂⟩ := key m a₁ w₁ xs hh _ S' hI hr2
    exact ⟨e₂, a₂, w₂, hq₂, .of_steps (.head step_scope (harr _ hg)) harr₂⟩
  | ret => exact ⟨_, a₁, w₁, ⟨σ', β', S', hq, hr', hn⟩, .of_steps (.one step_scope) harr⟩
  | panic ch => exact ⟨_, a₁, w₁, ⟨σ', β', S', hq, hr', hn⟩, .of_steps (.one step_scope) harr⟩
  | outgrown => exact ⟨_, a₁, w₁, ⟨σ', β', S', hq, hr', hn⟩, .of_steps (.one step_scope) harr⟩
def Code.fst : Code → Code
  | .seq a _ => a
  | c => c
def Code.snd : Code → Code
  | .seq _ b => b
  | c => c
def Code.inner : Code → Code
  | .scope c => c
  | c => c
end Go.Ev

namespace Go.Ev
open Go

/-- A quotient isn't more than what the topmost limbs tell. -/
theorem guess_ge {U V u0 v0 P U3 V2 q : Nat} (hU : U = u0 + P * U3) (hV : V = v0 + P * V2) (hu : u0 < P) (hq : q * V ≤ U) : q * V2 ≤ U3 := by
  subst hU hV
  have h1 : P * (q * V2) ≤ q * (v0 + P * V2) := by
    rw [Nat.mul_add, ← Nat.mul_assoc q P V2, Nat.mul_comm q P, Nat.mul_assoc]; omega
  have h2 : P * (q * V2) < P * (U3 + 1) := by rw [Nat.mul_add, Nat.mul_one]; omega
  have := Nat.lt_of_mul_lt_mul_left h2
  omega
theorem guess_gt {U V u0 v0 P U3 V2 g : Nat} (hU : U = u0 + P * U3) (hV : V = v0 + P * V2) (hu : u0 < P) (hg : U3 < g * V2) : U < g * V := by
  subst hU hV
  have h1 : P * (U3 + 1) ≤ P * (g * V2) := Nat.mul_le_mul_left _ hg
  have h2 : P * (g * V2) ≤ g * (v0 + P * V2) := by
    rw [Nat.mul_add, ← Nat.mul_assoc g P V2, Nat.mul_comm g P, Nat.mul_assoc]; omega
  rw [Nat.mul_add, Nat.mul_one] at h1
  omega
theorem guess_near {U V u0 v0 P U3 V2 g : Nat} (hU : U = u0 + P * U3) (hV : V = v0 + P * V2) (hv : v0 < P) (hg : g * V2 ≤ U3) (hgV : g ≤ V2 + 1) : (g - 1) * V ≤ U := by
  cases g with
  | zero => simp
  | succ g =>
    subst hU hV
    rw [Nat.add_sub_cancel]
    have h1 : g * (V2 + 1) ≤ U3 := by
      rw [Nat.mul_add, Nat.mul_one]
      rw [Nat.add_mul, Nat.one_mul] at hg; omega
    have h2 : g * (v0 + P * V2) ≤ P * (g * (V2 + 1)) := by
      rw [Nat.mul_add, Nat.mul_add V2 1 |> fun h => Nat.mul_add g V2 1, Nat.mul_one, Nat.mul_add P, ← Nat.mul_assoc g P V2, Nat.mul_comm g P, Nat.mul_assoc, Nat.mul_comm P g]
      have := Nat.mul_le_mul_left g (Nat.le_of_lt hv)
      omega
    have h3 : P * (g * (V2 + 1)) ≤ P * U3 := Nat.mul_le_mul_left _ h1
    omega
theorem quot_of {U V g : Nat} (hV : 0 < V) (h1 : U / V ≤ g) (h2 : (g - 1) * V ≤ U) : U / V = g ∨ U / V = g - 1 := by
  have := (Nat.le_div_iff_mul_le hV).2 h2
  omega
/-- The three topmost limbs. -/
theorem nv_top3 (l : List UInt32) (n : Nat) (hl : l.length = n + 1) (hn : 2 ≤ n) : nv l = nv (l.take (n - 2)) + Pw (n - 2) * ((l.getD (n - 2) 0).toNat + 4294967296 * ((l.getD (n - 1) 0).toNat + 4294967296 * (l.getD n 0).toNat)) := by
  rw [nv_take_drop l (n - 2) (by omega), nv_drop' l (n - 2), nv_drop' l (n - 2 + 1), nv_drop' l (n - 2 + 1 + 1), show n - 2 + 1 = n - 1 by omega, show n - 1 + 1 = n by omega, List.drop_eq_nil_of_le (by omega), nv_nil, Nat.mul_zero, Nat.add_zero]
theorem nv_top2 (l : List UInt32) (n : Nat) (hl : l.length = n) (hn : 2 ≤ n) : nv l = nv (l.take (n - 2)) + Pw (n - 2) * ((l.getD (n - 2) 0).toNat + 4294967296 * (l.getD (n - 1) 0).toNat) := by
  rw [nv_take_drop l (n - 2) (by omega), nv_drop' l (n - 2), nv_drop' l (n - 2 + 1), show n - 2 + 1 = n - 1 by omega, show n - 1 + 1 = n by omega, List.drop_eq_nil_of_le (by omega), nv_nil, Nat.mul_zero, Nat.add_zero]
theorem nv_take_lt (l : List UInt32) (k : Nat) : nv (l.take k) < Pw k := by
  have := nv_lt (l.take k)
  refine Nat.lt_of_lt_of_le this (Pw_mono ?_)
  rw [List.length_take]; omega
/-- One round of taking a multiple away. -/
theorem sub_round {p u v g c b : Nat} (hu : u < 4294967296) (hv : v < 4294967296) (hg : g < 4294967296) (hc : c < 4294967296) (hb : b ≤ 1) {x : Nat} (hx : x = ((u + 18446744073709551616 - (c + g * v) % 4294967296) % 18446744073709551616 + 18446744073709551616 - b) % 18446744073709551616) :
    p * (x % 4294967296) + g * (p * v) + p * (c + b) = p * u + 4294967296 * p * ((c + g * v) / 4294967296 + x / 4294967296 % 2) ∧ (c + g * v) / 4294967296 < 4294967296 ∧ x / 4294967296 % 2 ≤ 1 ∧ c + g * v < 18446744073709551616 := by
  have h1 : g * v ≤ 4294967295 * 4294967295 := Nat.mul_le_mul (by omega) (by omega)
  generalize hw : g * v = w at *
  have h2 : x % 4294967296 + (c + w) % 4294967296 + b = u + 4294967296 * (x / 4294967296 % 2) := by omega
  have h3 : x % 4294967296 + w + (c + b) = u + 4294967296 * ((c + w) / 4294967296 + x / 4294967296 % 2) := by omega
  have h4 := congrArg (p * ·) h3
  simp only [Nat.mul_add] at h4
  refine ⟨?_, by omega, by omega, by omega⟩
  have e1 : g * (p * v) = p * w := by rw [← hw]; simp only [Nat.mul_left_comm]
  have e2 : ∀ y, p * (4294967296 * y) = 4294967296 * p * y := fun y => by rw [Nat.mul_left_comm, Nat.mul_assoc]
  simp only [Nat.mul_add, e1] at h4 ⊢
  rw [e2, e2] at h4
  omega
end Go.Ev

namespace Go.Ev
open Go
theorem RegE.lateS {a : Prop} {T : Tab} {n : Nat} {ops : Array Oper} {d : Bool} {ps : List (Nat × Nat)} {X : Prop} {b : List (Nat × Nat) → Prop} (hs : (ps.all fun p => (ops[p.1]?).any isSt) = true) (hk : regOkL T n ops d ps = true) (hx : X) (hb : b ps = Cd (regOkL T n ops d ps = true) X) : RegE a b := .late ps (by rw [hb]; exact Cd.mk hk hx)
end Go.Ev
