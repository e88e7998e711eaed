/- Contracts of the given functions, on data. Conditions stand in each theorem. -/
import Derived.Test.YtagjickjfjgfpaaGreatDoorHEvQ
set_option linter.unusedSimpArgs false
set_option linter.unusedVariables false
namespace Go.Ev
open Go
mutual
def A.nr (V : List Nat) : A → Bool
 | .ptr b _ => !V.contains b
 | .own b _ _ _ => !V.contains b
 | .agg l => A.nrs V l
 | .fn _ l => A.nrs V l
 | .d _ => true
 | .elem _ => true
def A.nrs (V : List Nat) : List A → Bool
 | [] => true
 | x :: l => x.nr V && A.nrs V l
end
mutual
theorem a18 {V mv : List Nat} (hm : ∀ b, mv.contains b = true → V.contains b = true) : ∀ {x : A}, x.nr V = true → x.kl mv = x
 | .d x, _ => rfl
 | .elem x, _ => rfl
 | .ptr b o, h => by
  simp only [A.nr, Bool.not_eq_true'] at h
  have : mv.contains b = false := by
   cases e : mv.contains b with
   | false => rfl
   | true => rw [hm b e] at h; cases h
  simp only [A.kl, this]; rfl
 | .own b o n s, h => by
  simp only [A.nr, Bool.not_eq_true'] at h
  have : mv.contains b = false := by
   cases e : mv.contains b with
   | false => rfl
   | true => rw [hm b e] at h; cases h
  simp only [A.kl, this]; rfl
 | .agg l, h => by simp only [A.nr] at h; simp only [A.kl, aki hm h]
 | .fn f l, h => by simp only [A.nr] at h; simp only [A.kl, aki hm h]
theorem aki {V mv : List Nat} (hm : ∀ b, mv.contains b = true → V.contains b = true) : ∀ {l : List A}, A.nrs V l = true → A.kls mv l = l
 | [], _ => rfl
 | x :: l, h => by
  simp only [A.nrs, Bool.and_eq_true] at h
  simp only [A.kls, a18 hm h.1, aki hm h.2]
end
theorem ar9 (V : List Nat) : ∀ l : List D, A.nrs V (l.map A.d) = true
 | [] => rfl
 | x :: l => by simp [A.nrs, A.nr, ar9 V l]
mutual
theorem a2d {V : List Nat} : ∀ {x : A}, (x.kl V).nr V = true
 | .d x => rfl
 | .elem x => rfl
 | .ptr b o => by
  simp only [A.kl]
  split
  ·rfl
  ·rename_i h; simp only [A.nr]; simpa using h
 | .own b o n s => by
  simp only [A.kl]
  split
  ·rfl
  ·rename_i h; simp only [A.nr]; simpa using h
 | .agg l => by simp only [A.kl, A.nr]; exact apv
 | .fn f l => by simp only [A.kl, A.nr]; exact apv
theorem apv {V : List Nat} : ∀ {l : List A}, A.nrs V (A.kls V l) = true
 | [] => rfl
 | x :: l => by simp only [A.kls, A.nrs, a2d, apv]; rfl
end
structure Cfg where
 cs : List Nat
 fs : List Nat
 W : List Nat
 V : List Nat
 ps : List Nat
def ka (C : Cfg) (heap : Hp) : Bool := C.V.isEmpty || heap.all fun x => C.W.contains x.1 || A.nrs C.V x.2.2
inductive eg (P : Program) (G : bb) (C : Cfg) (n : Nat) (env : List (Nat × A)) (heap : Hp) (f : FuncId) (xs : List A) (K : A → St → Prop) : Prop where
 | mk {args : List A} {hin : Hp} {r : A} {hout : Hp} (hs : ji P G f args hin r hout) (ρ ν : List (Nat × Nat)) (rR : A) (houtR : Hp)
  (ha : jt (lk heap) ρ args xs []) (hi : s9 heap ρ hin) (hc : wh ρ ν heap (hin.map (·.1)) (hout.map (·.1)) = true)
  (hw : ((((ρ ++ ν).map (·.2)).all fun b => C.W.contains b) && (C.W.all fun b => ((ρ ++ ν).map (·.2)).contains b || (lk heap b).isNone) && ((ja ρ).all fun b => C.V.contains b) && (hout.all fun x => !x.2.1)) = true)
  (hr : r.ren (ρ ++ ν) = rR) (ho : aaj (ρ ++ ν) hout = houtR)
  (k : K rR ⟨n, klE (ja ρ) env, houtR ++ m8 ((ρ ++ ν).map (·.2)) heap⟩)
theorem rr {hp hp' : Nat → Option (Bool × List A)} : ∀ {as : List A} {K : List D → Prop}, fc hp as (fun xs bs => K xs ∧ bs = []) → fc hp' as (fun xs bs => K xs ∧ bs = [])
 | [], K, h => h
 | a :: as, K, h => by
  simp only [fc] at h ⊢
  cases a with
  | d x => exact rr (K := fun xs => K (x.dn :: xs)) (by simpa [ij] using h)
  | elem l => exact rr (K := fun xs => K (.ptrd l :: xs)) (by simpa [ij] using h)
  | ptr b o =>
   simp only [ij] at h
   split at h
   ·obtain ⟨ds, _, h⟩ := h
    exfalso
    have : ∀ (as : List A), fc hp as (fun xs bs' => K (.ptrd (ds.drop o) :: xs) ∧ [b] ++ bs' = []) → False := by
     intro as
     have key : ∀ (as : List A) (Q : List D → List Nat → Prop), (∀ xs bs, Q xs bs → False) → fc hp as Q → False := by
      intro as
      induction as with
      | nil => intro Q hQ h; exact hQ _ _ h
      | cons c as ih =>
       intro Q hQ h
       simp only [fc] at h
       cases c with
       | d x => exact ih _ (fun xs bs => hQ _ _) h
       | elem l => exact ih _ (fun xs bs => hQ _ _) h
       | ptr b o =>
        simp only [ij] at h
        split at h
        ·obtain ⟨_, _, h⟩ := h; exact ih _ (fun xs bs => hQ _ _) h
        ·exact h
       | own b o n s =>
        simp only [ij] at h
        split at h
        ·obtain ⟨_, _, _, _, h⟩ := h; exact ih _ (fun xs bs => hQ _ _) h
        ·exact h
       | agg l => exact h
       | fn f l => exact h
     exact key as _ fun xs bs hq => by simp at hq
    exact this as h
   ·exact h.elim
  | own b o n s =>
   simp only [ij] at h
   split at h
   ·obtain ⟨ds, _, x, _, h⟩ := h
    exfalso
    have key : ∀ (as : List A) (Q : List D → List Nat → Prop), (∀ xs bs, Q xs bs → False) → fc hp as Q → False := by
     intro as
     induction as with
     | nil => intro Q hQ h; exact hQ _ _ h
     | cons c as ih =>
      intro Q hQ h
      simp only [fc] at h
      cases c with
      | d x => exact ih _ (fun xs bs => hQ _ _) h
      | elem l => exact ih _ (fun xs bs => hQ _ _) h
      | ptr b o =>
       simp only [ij] at h
       split at h
       ·obtain ⟨_, _, h⟩ := h; exact ih _ (fun xs bs => hQ _ _) h
       ·exact h
      | own b o n s =>
       simp only [ij] at h
       split at h
       ·obtain ⟨_, _, _, _, h⟩ := h; exact ih _ (fun xs bs => hQ _ _) h
       ·exact h
      | agg l => exact h
      | fn f l => exact h
    exact key as _ (fun xs bs hq => by simp at hq) h
   ·exact h.elim
  | agg l => exact h.elim
  | fn f l => exact h.elim
theorem ate {hp hp' : Nat → Option (Bool × List A)} {a : A} {x : D} (h : ma hp a fun y b => y = x ∧ b = ([] : List Nat)) : ma hp' a fun y b => y = x ∧ b = ([] : List Nat) := by
 cases a with
 | d y => exact h
 | elem l => exact h
 | ptr b o =>
  simp only [ma, ij] at h
  split at h
  ·obtain ⟨_, _, h⟩ := h; exact absurd h.2 (by simp)
  ·exact h.elim
 | own b o n s =>
  simp only [ma, ij] at h
  split at h
  ·obtain ⟨_, _, _, _, h⟩ := h; exact absurd h.2 (by simp)
  ·exact h.elim
 | agg l =>
  simp only [ma] at h ⊢
  exact rr (K := fun xs => D.agg xs = x) h
 | fn f l =>
  simp only [ma] at h ⊢
  exact rr (K := fun xs => D.fnd f xs = x) h
theorem atf {hp hp' : Nat → Option (Bool × List A)} {ρ : List (Nat × Nat)} {cs as : List A} {bs : List Nat} (h : jt hp ρ cs as bs) : bs = [] → jt hp' ρ cs as [] := by
 induction h with
 | nil => intro _; exact .nil
 | @data x a b1 bs cs as h t ih =>
  intro e
  obtain ⟨rfl, rfl⟩ := List.append_eq_nil_iff.1 e
  exact .data (b1 := []) (bs := []) (by
   exact ate h) (ih rfl)
 | own h t ih => intro e; exact .own h (ih e)
def a2o (G : bb) (C : Cfg) (σ : St) (c : Call) : Bool := match c.args.toList with
 | [s, _] => match σ.ev G s with
  | .own b _ _ _ => C.W.contains b && C.V.contains b && C.W.all fun b => match lk σ.heap b with | some (fr, _) => !fr | none => true
  | _ => false
 | _ => false
def a12 (P : Program) (G : bb) (T : Tab) (C : Cfg) (σ : St) (dst : Option Nat) (op : Op) (K : A → St → Prop) : Prop :=
 match σ with
 | ⟨n, env, heap⟩ => match op with
  | .call c => match c.callee with
   | .value x => match x with
    | .func f => eg P G C n env heap f (c.args.toList.map (St.ev G ⟨n, env, heap⟩)) K
    | _ => False
   | .builtin bi => match bi with
    | .append => Cd (a2o G C ⟨n, env, heap⟩ c = true) (uv T G ⟨n, env, heap⟩ dst (.call c) K)
    | _ => False
   | _ => False
  | _ => False
def vfK (C : Cfg) (σ : St) (dst : Option Nat) (op : Op) (X : Prop) : Prop :=
 match C.V with
 | [] => X
 | _ :: _ =>
  let Y := match kindOf op with
   | 1 => Cd (ka C σ.heap = true) X
   | 2 => Cd (ka C σ.heap = true) X
   | _ => X
  match dst with
  | none => Y
  | some d => bif C.ps.contains d then Y else Cd ((σ.get d).nr C.V = true) Y
theorem azi {C : Cfg} {σ : St} {dst : Option Nat} {op : Op} {X : Prop} (h : vfK C σ dst op X) : X ∧ (C.V = [] ∨ ((∀ d, dst = some d → d ∉ C.ps → (σ.get d).nr C.V = true) ∧ ((kindOf op = 1 ∨ kindOf op = 2) → ka C σ.heap = true))) := by
 unfold vfK at h
 split at h
 ·rename_i e; exact ⟨h, .inl e⟩
 ·have key : ∀ (Z : Prop), (match kindOf op with | 1 => Cd (ka C σ.heap = true) Z | 2 => Cd (ka C σ.heap = true) Z | _ => Z) → Z ∧ ((kindOf op = 1 ∨ kindOf op = 2) → ka C σ.heap = true) := by
   intro Z hZ
   split at hZ
   ·exact ⟨hZ.2, fun _ => hZ.1⟩
   ·exact ⟨hZ.2, fun _ => hZ.1⟩
   ·rename_i h1 h2
    exact ⟨hZ, fun h => h.elim (fun h => absurd h h1) (fun h => absurd h h2)⟩
  dsimp only at h
  cases dst with
  | none =>
   obtain ⟨h1, h2⟩ := key _ h
   exact ⟨h1, .inr ⟨(fun d e => nomatch e), h2⟩⟩
  | some d =>
   simp only at h
   cases hc : C.ps.contains d with
   | true =>
    rw [hc] at h
    obtain ⟨h1, h2⟩ := key _ h
    exact ⟨h1, .inr ⟨fun d' e hn => by cases e; exact absurd (by simpa using hc) hn, h2⟩⟩
   | false =>
    rw [hc] at h
    obtain ⟨h3, h4⟩ := h
    obtain ⟨h1, h2⟩ := key _ h4
    exact ⟨h1, .inr ⟨fun d' e _ => by cases e; exact h3, h2⟩⟩
namespace Dw
section
variable {T : Tab} {P : Program} {G : bb} {C : Cfg} {ops : Array Oper} {σs : Nat → St}
variable {w0 : World} {M : Own} {S0 : Imm} {a : Act} {w : World} {β : Own} {S : Imm} {L : Nat → Prop} {σE : St} {j : Nat} {o : Oper}
def isO (C : Cfg) (i : Nat) : Bool := C.cs.contains i
def xo (C : Cfg) (ops : Array Oper) (y : Oper) : Bool := ((y.looksAt ops).any fun t => C.ps.contains t) || (match y.dst with | some d => C.ps.contains d | none => false)
def dk (C : Cfg) (ops : Array Oper) (i : Nat) (x : Oper) (j : Nat) (y : Oper) : Bool :=
 !(x.apart ops y) || (ej x && !(kr y)) || (ej y && !(kr x)) || (isO C i && (!(kr y || kindOf y.op == 1 || C.fs.contains j) || xo C ops y)) || (isO C j && (!(kr x || kindOf x.op == 1 || C.fs.contains i) || xo C ops x))
theorem al1 {i j : Nat} {x y : Oper} (h : dk C ops i x j y = true) : dk C ops j y i x = true := by
 unfold dk at h ⊢
 have hs : ∀ a b : Oper, a.apart ops b = true → b.apart ops a = true := by
  intro a b hab
  obtain ⟨h1, h2, h3⟩ := Oper.apart_spec hab
  unfold Oper.apart
  simp only [Bool.and_eq_true]
  constructor
  ·cases hb : b.dst with
   | none => rfl
   | some d =>
    simp only [Bool.and_eq_true, Bool.not_eq_true', bne_iff_ne]
    exact ⟨by simpa using h3 d hb, fun e => h2 d e hb⟩
  ·cases ha : a.dst with
   | none => rfl
   | some d => simpa using h1 d ha
 have hxy : x.apart ops y = y.apart ops x := by
  cases h1 : x.apart ops y <;> cases h2 : y.apart ops x
  ·rfl
  ·rw [hs _ _ h2] at h1; cases h1
  ·rw [hs _ _ h1] at h2; cases h2
  ·rfl
 rw [hxy] at h
 simp only [Bool.or_eq_true] at h ⊢
 rcases h with (((h | h) | h) | h) | h
 ·exact .inl (.inl (.inl (.inl h)))
 ·exact .inl (.inl (.inr h))
 ·exact .inl (.inl (.inl (.inr h)))
 ·exact .inr h
 ·exact .inl (.inr h)
def aev (C : Cfg) (ops : Array Oper) (ms : List Nat) : List Oper → Nat → Bool
  | [], _ => true
  | o :: os, j => ((bk o).all (· < j)) && ((List.range j).all fun i => match ops[i]? with | some x => !(dk C ops i x j o) || (ms.getD j 0).testBit i | none => true) && aev C ops ms os (j + 1)
theorem abx {ms : List Nat} (hms : ∀ p i, (ms.getD p 0).testBit i = true → Anc ops p i) : ∀ (os : List Oper) (j : Nat), ops.toList.drop j = os → aev C ops ms os j = true →
  ∀ k o, j ≤ k → ops[k]? = some o → (∀ p ∈ bk o, p < k) ∧ ∀ i x, i < k → ops[i]? = some x → dk C ops i x k o = true → Anc ops k i
 | [], j, hd, _, k, o, hk, ho => by
  have : ops.toList.length ≤ j := List.drop_eq_nil_iff.1 hd
  have h2 : k < ops.size := by
   rcases Nat.lt_or_ge k ops.size with h | h
   ·exact h
   ·simp [Array.getElem?_eq_none h] at ho
  simp at this
  omega
 | o0 :: os, j, hd, h, k, o, hk, ho => by
  simp only [aev, Bool.and_eq_true] at h
  obtain ⟨⟨h1, h2⟩, h3⟩ := h
  by_cases hkj : k = j
  ·subst hkj
   have hoj : ops[k]? = some o0 := by
    have : (ops.toList.drop k)[0]? = some o0 := by rw [hd]; rfl
    simpa using this
   rw [hoj] at ho; cases ho
   refine ⟨fun p hp => by simpa using List.all_eq_true.1 h1 p hp, fun i x hi hx hc => ?_⟩
   have := List.all_eq_true.1 h2 i (by simpa using hi)
   rw [hx] at this
   simp only [hc, Bool.not_true, Bool.false_or] at this
   exact hms k i this
  ·refine abx hms os (j + 1) ?_ h3 k o (by omega) ho
   have : (ops.toList.drop j).drop 1 = os := by rw [hd]; rfl
   rwa [List.drop_drop] at this
def ac4 (T : Tab) (C : Cfg) (n : Nat) (ops : Array Oper) (draw : Bool) : Bool :=
  (ops.all fun o => o.dst.all (· < n)) && draw && aev C ops (ais ops.toList []) ops.toList 0 && (ops.toList.all fun o => x9 T o.op) &&
  ((List.range ops.size).all fun i => match ops[i]? with | some o => kindOf o.op != 2 || ej o || C.cs.contains i | none => true) &&
  (C.cs.all fun i => (match ops[i]? with | some o => (kindOf o.op == 3 || kindOf o.op == 2) && !ej o | none => true) && !C.fs.contains i) &&
  (ops.toList.all fun o => kindOf o.op != 1 || (match o.dst with | some d => !C.W.contains d | none => true)) && (C.fs.all fun i => stays ops i && (match ops[i]? with | some o => !xo C ops o | none => true))
structure Stat (T : Tab) (C : Cfg) (ops : Array Oper) : Prop where
 sp : ∀ (k : Nat) (o : Oper), ops[k]? = some o → (∀ p ∈ bk o, p < k) ∧ ∀ (i : Nat) (x : Oper), i < k → ops[i]? = some x → dk C ops i x k o = true → Anc ops k i
 safe : ∀ o ∈ ops.toList, x9 T o.op = true
 wr : ∀ (i : Nat) (o : Oper), ops[i]? = some o → isO C i = false → kindOf o.op = 2 → ej o = true
 k3 : ∀ (i : Nat) (o : Oper), isO C i = true → ops[i]? = some o → (kindOf o.op = 3 ∨ (kindOf o.op = 2 ∧ ej o = false)) ∧ C.fs.contains i = false
 al : ∀ (i : Nat) (o : Oper) (d : Nat), ops[i]? = some o → kindOf o.op = 1 → o.dst = some d → d ∉ C.W
 st : ∀ i, C.fs.contains i = true → stays ops i = true
 lp : ∀ (i : Nat) (o : Oper), C.fs.contains i = true → ops[i]? = some o → xo C ops o = false
theorem ar1 {i : Nat} {o : Oper} (h : ops[i]? = some o) : o ∈ ops.toList := by
 have : ops.toList[i]? = some o := by simpa using h
 exact List.mem_of_getElem? this
theorem am5 {n : Nat} {d : Bool} (h : ac4 T C n ops d = true) : (∀ o ∈ ops.toList, ∀ d, o.dst = some d → d < n) ∧ d = true ∧ Stat T C ops := by
 simp only [ac4, Bool.and_eq_true] at h
 obtain ⟨⟨⟨⟨⟨⟨⟨h1, h2⟩, h3⟩, h4⟩, h5⟩, h6⟩, h7⟩, h8⟩ := h
 refine ⟨fun o ho d hd => ?_, h2, ?_⟩
 ·rw [Array.all_eq_true_iff_forall_mem] at h1
  have := h1 o (Array.mem_toList_iff.1 ho)
  rw [hd] at this
  simpa using this
 ·refine ⟨fun k o => abx (acx ops.toList [] (by simp) (by intro p i h; simp at h)) ops.toList 0 (by simp) h3 k o (Nat.zero_le k), fun o ho => List.all_eq_true.1 h4 o ho, fun i o ho hi hk => ?_, fun i o hi ho => ?_, fun i o d ho hk hd => ?_, fun i hi => ?_, fun i o hi ho => ?_⟩
  ·have hlt : i < ops.size := by
    rcases Nat.lt_or_ge i ops.size with h | h
    ·exact h
    ·simp [Array.getElem?_eq_none h] at ho
   have := List.all_eq_true.1 h5 i (List.mem_range.2 hlt)
   unfold isO at hi
   rw [ho] at this
   simp only [hk, hi] at this
   simpa using this
  ·have := List.all_eq_true.1 h6 i (by simpa [isO] using hi)
   rw [ho] at this
   simp only [Bool.and_eq_true, Bool.or_eq_true, beq_iff_eq, Bool.not_eq_true'] at this
   obtain ⟨⟨h, h'⟩, h''⟩ := this
   exact ⟨by rcases h with h | h; exact .inl h; exact .inr ⟨h, h'⟩, h''⟩
  ·have := List.all_eq_true.1 h7 o (ar1 ho)
   rw [hd] at this
   simpa [hk] using this
  ·have := List.all_eq_true.1 h8 i (by simpa using hi)
   simp only [Bool.and_eq_true] at this
   exact this.1
  ·have := List.all_eq_true.1 h8 i (by simpa using hi)
   rw [ho] at this
   simp only [Bool.and_eq_true, Bool.not_eq_true'] at this
   exact this.2
def NR (C : Cfg) (σ : St) : Prop := C.V = [] ∨ ((∀ t, t ∉ C.ps → (σ.get t).nr C.V = true) ∧ ∀ b f l, b ∉ C.W → lk σ.heap b = some (f, l) → A.nrs C.V l = true)
def eff (tg : List Nat) (houtR : Hp) (heap : Hp) (b : Nat) : Option (Bool × List A) := if tg.contains b then lk houtR b else lk heap b
def pG (C : Cfg) (dst : Option Nat) (r : A) (nP : Nat → A) (σ : St) (t : Nat) : A := if dst = some t then r else if C.ps.contains t then nP t else σ.get t
def pH (C : Cfg) (nW : Nat → Option (Bool × List A)) (σ : St) (b : Nat) : Option (Bool × List A) := if C.W.contains b then nW b else lk σ.heap b
inductive oa (P : Program) (G : bb) (T : Tab) (C : Cfg) (ops : Array Oper) (i : Nat) (o : Oper) (σ τ : St) : Prop where
 | old (hc : isO C i = false) (hw : kindOf o.op = 2 → ej o = true) (h : lg P G T ops o σ τ)
 | skip (hc : isO C i = true) (hg : mh ops o σ) (n : τ.n = σ.n) (get : ∀ t, τ.get t = (σ.put o.dst (.d (.tup []))).get t) (heap : ∀ b, lk τ.heap b = lk σ.heap b)
 | own (hc : isO C i = true) (hg : a8 ops o σ) (r : A) (nP : Nat → A) (nW : Nat → Option (Bool × List A)) (n : τ.n = σ.n) (get : ∀ t, τ.get t = pG C o.dst r nP σ t) (heap : ∀ b, lk τ.heap b = pH C nW σ b)
   (fl : ∀ b l, nW b ≠ some (true, l)) (live : ∀ b l, b ∈ C.W → lk σ.heap b ≠ some (true, l)) (key : ∀ b, b ∈ C.W → lk σ.heap b ≠ none → nW b ≠ none)
   (t : ∀ σ', aff G o σ σ' → (∀ d, o.dst = some d → d < σ'.n) → (∀ t, t ∈ C.ps → σ'.get t = σ.get t) → (∀ b ∈ C.W, lk σ'.heap b = lk σ.heap b) →
    (∀ x ∈ o.op.operands, ∀ b, cv (σ.ev G x) b → b ∉ C.W → ∀ fr l, lk σ.heap b = some (fr, l) → ∃ fr', lk σ'.heap b = some (fr', l)) → NR C σ' →
    ∀ {w0 : World} {M : Own} {S0 : Imm} {a : Act} {w : World} {β : Own} {S : Imm}, Rel G w0 M S0 σ' a w β S → ∀ (Q : Exit → Act → World → Prop) (next : Act → World → Prop),
    (∀ σ'' a' w' β' S', Rel G w0 M S0 σ'' a' w' β' S' → σ''.n = σ'.n → (∀ t, σ''.get t = pG C o.dst r nP σ' t) → (∀ b, lk σ''.heap b = pH C nW σ' b) → next a' w') → o.wp P a w next Q)
def o7 (C : Cfg) (ops : Array Oper) (i t : Nat) : Prop := ∃ o, ops[i]? = some o ∧ (o.dst = some t ∨ (isO C i = true ∧ t ∈ C.ps))
def dz (G : bb) (C : Cfg) (ops : Array Oper) (σs : Nat → St) (i b : Nat) : Prop := ∃ o, ops[i]? = some o ∧ ((isO C i = true ∧ b ∈ C.W) ∨ (isO C i = false ∧ ej o = true ∧ stb G o (σs i) b) ∨ (isO C i = false ∧ kindOf o.op = 1 ∧ o.dst = some b ∧ a8 ops o (σs i)))
theorem aje {i : Nat} {σ τ : St} (h : oa P G T C ops i o σ τ) {t : Nat} (h1 : o.dst ≠ some t) (h2 : ¬ (isO C i = true ∧ t ∈ C.ps)) : τ.get t = σ.get t := by
 cases h with
 | old hc hw h => exact an4 h h1 (fun e => by have := hw e.1; rw [e.2] at this; cases this)
 | skip hc hg n get heap => rw [get, b9 h1]
 | own hc hg r nP nW n get heap fl live key t =>
  rw [get]; unfold pG
  rw [if_neg h1, if_neg (fun e => h2 ⟨hc, by simpa using e⟩)]
theorem a1t {i : Nat} {σ τ : St} (h : oa P G T C ops i o σ τ) : τ.n = σ.n := by
 cases h with
 | old hc hw h => exact ay6 h
 | skip hc hg n get heap => exact n
 | own hc hg r nP nW n get heap fl live key t => exact n
theorem an3 {i : Nat} {σ τ : St} (h : oa P G T C ops i o σ τ) {b : Nat} (h1 : ¬ (isO C i = true ∧ b ∈ C.W)) (h2 : ¬ (isO C i = false ∧ ej o = true ∧ stb G o σ b)) (h3 : ¬ (isO C i = false ∧ kindOf o.op = 1 ∧ o.dst = some b ∧ a8 ops o σ)) : ct τ b = ct σ b := by
 cases h with
 | old hc hw h => exact alc h (fun e => h2 ⟨hc, hw e.1, e.2 (hw e.1)⟩) (fun e => h3 ⟨hc, e⟩)
 | skip hc hg n get heap => unfold ct; rw [heap]
 | own hc hg r nP nW n get heap fl live key t =>
  unfold ct; rw [heap]; unfold pH
  rw [if_neg (fun e => h1 ⟨hc, by simpa using e⟩)]
theorem aqs {i : Nat} {σ τ : St} (h : oa P G T C ops i o σ τ) {b : Nat} {l : List A} (hl : lk σ.heap b = some (true, l)) : ∃ l', lk τ.heap b = some (true, l') := by
 cases h with
 | old hc hw h => exact ajg h hl
 | skip hc hg n get heap => rw [heap]; exact ⟨l, hl⟩
 | own hc hg r nP nW n get heap fl live key t =>
  rw [heap]; unfold pH
  rw [if_neg (fun e => live b l (by simpa using e) hl)]; exact ⟨l, hl⟩
theorem aqr {i : Nat} {σ τ : St} (h : oa P G T C ops i o σ τ) {b : Nat} (hl : lk σ.heap b ≠ none) : lk τ.heap b ≠ none := by
 cases h with
 | old hc hw h => exact ajf h hl
 | skip hc hg n get heap => rw [heap]; exact hl
 | own hc hg r nP nW n get heap fl live key t =>
  rw [heap]; unfold pH
  split
  ·rename_i e; exact key b (by simpa using e) hl
  ·exact hl
theorem ay5 {i : Nat} {σ τ : St} (h : oa P G T C ops i o σ τ) (hfd : FD σ) : FD τ := by
 cases h with
 | old hc hw h => exact as9 h hfd
 | skip hc hg n get heap => intro b l hl; rw [heap] at hl; exact hfd b l hl
 | own hc hg r nP nW n get heap fl live key t =>
  intro b l hl
  rw [heap] at hl; unfold pH at hl
  split at hl
  ·exact absurd hl (fl b l)
  ·exact hfd b l hl
variable (hst : ∀ i o, ops[i]? = some o → oa P G T C ops i o (σs i) (σs (i + 1)))
include hst
omit hst in
theorem m5 {Q : St → Prop} {a : Nat} (hs : ∀ i o, a ≤ i → ops[i]? = some o → Q (σs i) → Q (σs (i + 1))) (ha : Q (σs a)) : ∀ k, a + k ≤ ops.size → Q (σs (a + k))
 | 0, _ => ha
 | k + 1, hk => by
  obtain ⟨o, ho⟩ : ∃ o, ops[a + k]? = some o := ⟨ops[a + k], by simp [show a + k < ops.size by omega]⟩
  exact hs (a + k) o (by omega) ho (m5 hs ha k (by omega))
theorem yy {a m b : Nat} (ham : a ≤ m) (hm : m ≤ ops.size) (h : lk (σs a).heap b ≠ none) : lk (σs m).heap b ≠ none := by
 have := m5 (Q := fun σ => lk σ.heap b ≠ none) (a := a) (fun i o _ ho h => aqr (hst i o ho) h) h (m - a) (by omega)
 rwa [show a + (m - a) = m by omega] at this
theorem zf {a m b : Nat} (ham : a ≤ m) (hm : m ≤ ops.size) (h : ∃ l, lk (σs a).heap b = some (true, l)) : ∃ l, lk (σs m).heap b = some (true, l) := by
 have := m5 (Q := fun σ => ∃ l, lk σ.heap b = some (true, l)) (a := a) (fun i o _ ho ⟨l, h⟩ => aqs (hst i o ho) h) h (m - a) (by omega)
 rwa [show a + (m - a) = m by omega] at this
theorem apr {m : Nat} (hm : m ≤ ops.size) : (σs m).n = (σs 0).n := by
 have := m5 (Q := fun σ => σ.n = (σs 0).n) (a := 0) (fun i o _ ho h => (a1t (hst i o ho)).trans h) rfl m (by omega)
 rwa [Nat.zero_add] at this
theorem vj {a m t : Nat} (ham : a ≤ m) (hm : m ≤ ops.size) (h : ∀ i, a ≤ i → i < m → ¬ o7 C ops i t) : (σs m).get t = (σs a).get t := by
 obtain ⟨k, rfl⟩ : ∃ k, m = a + k := ⟨m - a, by omega⟩
 clear ham
 induction k with
 | zero => rfl
 | succ k ih =>
  have hk := ih (by omega) (fun i h1 h2 => h i h1 (by omega))
  obtain ⟨o, ho⟩ : ∃ o, ops[a + k]? = some o := ⟨ops[a + k], by simp [show a + k < ops.size by omega]⟩
  have hn := h (a + k) (by omega) (by omega)
  rw [← Nat.add_assoc, aje (hst _ o ho) (fun e => hn ⟨o, ho, .inl e⟩) (fun e => hn ⟨o, ho, .inr e⟩), hk]
theorem adt {a m b : Nat} (ham : a ≤ m) (hm : m ≤ ops.size) (h : ∀ i, a ≤ i → i < m → ¬ dz G C ops σs i b) : ct (σs m) b = ct (σs a) b := by
 obtain ⟨k, rfl⟩ : ∃ k, m = a + k := ⟨m - a, by omega⟩
 clear ham
 induction k with
 | zero => rfl
 | succ k ih =>
  have hk := ih (by omega) (fun i h1 h2 => h i h1 (by omega))
  obtain ⟨o, ho⟩ : ∃ o, ops[a + k]? = some o := ⟨ops[a + k], by simp [show a + k < ops.size by omega]⟩
  have hn := h (a + k) (by omega) (by omega)
  rw [← Nat.add_assoc, an3 (hst _ o ho) (fun e => hn ⟨o, ho, .inl e⟩) (fun e => hn ⟨o, ho, .inr (.inl e)⟩) (fun e => hn ⟨o, ho, .inr (.inr e)⟩), hk]
omit hst
def Fz (G : bb) (C : Cfg) (i : Nat) (x : Oper) (σ : St) (b : Nat) : Prop := isO C i = false ∧ kindOf x.op = 3 ∧ ab3 G x σ b
structure cw (G : bb) (C : Cfg) (ops : Array Oper) (σs : Nat → St) (L : Nat → Prop) (σE : St) : Prop where
 n : σE.n = (σs 0).n
 get : ∀ t m, m ≤ ops.size → (∀ i, i < ops.size → o7 C ops i t → (L i ↔ i < m)) → σE.get t = (σs m).get t
 ct : ∀ b m, m ≤ ops.size → (∀ i, i < ops.size → dz G C ops σs i b → (L i ↔ i < m)) → Ev.ct σE b = Ev.ct (σs m) b
 fl : ∀ m, m ≤ ops.size → ∀ b, (∀ i x, ops[i]? = some x → Fz G C i x (σs i) b → L i → i < m) → ∀ l, lk (σs m).heap b = some (false, l) → ∀ l', lk σE.heap b ≠ some (true, l')
 nr : NR C σE
include hst in
theorem cw.start (h0 : NR C (σs 0)) : cw G C ops σs (fun _ => False) (σs 0) := by
 refine ⟨rfl, fun t m hm h => ?_, fun b m hm h => ?_, fun m hm b _ l hl l' h0 => ?_, h0⟩
 ·exact (vj hst (Nat.zero_le m) hm fun i _ hi ht => (h i (by omega) ht).2 hi).symm
 ·exact (adt hst (Nat.zero_le m) hm fun i _ hi ht => (h i (by omega) ht).2 hi).symm
 ·obtain ⟨l2, h2⟩ := zf hst (Nat.zero_le m) hm ⟨l', h0⟩
  rw [hl] at h2; cases h2
theorem aao {i j : Nat} {x o : Oper} {t : Nat} (hx : x.dst = some t) (ht : t ∈ o.looksAt ops ∨ o.dst = some t) : dk C ops i x j o = true := by
 unfold dk
 have : x.apart ops o = false := by
  cases ha : x.apart ops o with
  | false => rfl
  | true =>
   obtain ⟨h1, h2, _⟩ := Oper.apart_spec ha
   rcases ht with ht | ht
   ·exact absurd ht (h1 t hx)
   ·exact absurd ht (h2 t hx)
 simp [this]
theorem acv {o : Oper} {t : Nat} (ht : t ∈ o.looksAt ops ∨ o.dst = some t) (hp : t ∈ C.ps) : xo C ops o = true := by
 unfold xo
 rcases ht with ht | ht
 ·have : ((o.looksAt ops).any fun t => C.ps.contains t) = true := List.any_eq_true.2 ⟨t, ht, by simpa using hp⟩
  rw [this]; rfl
 ·rw [ht]; simp [hp]
theorem ams {i j : Nat} {x y : Oper} (h : isO C i = true) (hy : xo C ops y = true) : dk C ops i x j y = true ∧ dk C ops j y i x = true := by
 unfold dk; rw [h, hy]; simp
theorem uq {i j : Nat} {x y : Oper} (h : ej x = true) (hy : kr y = false) : dk C ops i x j y = true ∧ dk C ops j y i x = true := by
 unfold dk; simp [h, hy]
theorem qf {i j : Nat} {x y : Oper} (h : isO C i = true) (hy : kr y = false) (h1 : kindOf y.op ≠ 1) (hf : C.fs.contains j = false) : dk C ops i x j y = true ∧ dk C ops j y i x = true := by
 unfold dk
 have e : (kindOf y.op == 1) = false := by simpa using h1
 rw [h, hy, e, hf]; simp
def alp (G : bb) (C : Cfg) (ops : Array Oper) (σs : Nat → St) : Prop := ∀ j o b, C.fs.contains j = true → ops[j]? = some o → b ∈ C.W → ab3 G o (σs j) b → False
theorem ay2 {σ : St} {b : Nat} (h : stb G o σ b) : ab3 G o σ b := by
 unfold stb at h
 split at h
 ·rename_i t a v e
  exact ⟨a, by rw [e]; simp [Op.operands], h⟩
 ·exact h.elim
theorem ac3 (h : kindOf o.op = 3) : kr o = false := by
 cases hl : kr o with
 | false => rfl
 | true => have := gm hl; rw [h] at this; cases this
theorem ac2 (h : kindOf o.op = 1) : kr o = false := by
 cases hl : kr o with
 | false => rfl
 | true => have := gm hl; rw [h] at this; cases this
theorem vr (h : kindOf o.op = 3 ∨ (kindOf o.op = 2 ∧ ej o = false)) : kr o = false := by
 cases hl : kr o with
 | false => rfl
 | true => have := gm hl; rcases h with h | ⟨h, _⟩ <;> rw [h] at this <;> cases this
theorem aub (h : kindOf o.op = 3 ∨ (kindOf o.op = 2 ∧ ej o = false)) : ej o = false := by
 rcases h with h | h
 ·cases e : ej o with
  | false => rfl
  | true => rw [(c9 e).1] at h; cases h
 ·exact h.2
theorem ac5 (h : kindOf o.op = 3 ∨ (kindOf o.op = 2 ∧ ej o = false)) : kindOf o.op ≠ 1 := by rcases h with h | ⟨h, _⟩ <;> rw [h] <;> decide
theorem aqw (hS : Stat T C ops) (hA : alp G C ops σs) {i j b : Nat} {x y : Oper} (hx : ops[i]? = some x) (hy : ops[j]? = some y) (hi : dz G C ops σs i b) (hj : dz G C ops σs j b) : dk C ops i x j y = true := by
 obtain ⟨x', hx', hi⟩ := hi
 obtain ⟨y', hy', hj⟩ := hj
 rw [hx] at hx'; cases hx'
 rw [hy] at hy'; cases hy'
 have stA : ∀ {k : Nat} {z : Oper}, ops[k]? = some z → ej z = true → stb G z (σs k) b → b ∈ C.W → C.fs.contains k = false := fun {k z} hz hs hb hW => by
  cases e : C.fs.contains k with
  | false => rfl
  | true => exact (hA k z b e hz hW (ay2 hb)).elim
 rcases hi with ⟨i1, i2⟩ | ⟨i1, i2, i3⟩ | ⟨i1, i2, i3, i4⟩
 ·rcases hj with ⟨j1, j2⟩ | ⟨j1, j2, j3⟩ | ⟨j1, j2, j3, j4⟩
  ·have k := hS.k3 j y j1 hy
   exact (qf i1 (vr k.1) (ac5 k.1) k.2).1
  ·exact (qf i1 (by cases e : kr y with | false => rfl | true => rw [xn e] at j2; cases j2) (by rw [(c9 j2).1]; decide) (stA hy j2 j3 i2)).1
  ·exact absurd i2 (hS.al j y b hy j2 j3)
 ·rcases hj with ⟨j1, j2⟩ | ⟨j1, j2, j3⟩ | ⟨j1, j2, j3, j4⟩
  ·exact (qf j1 (by cases e : kr x with | false => rfl | true => rw [xn e] at i2; cases i2) (by rw [(c9 i2).1]; decide) (stA hx i2 i3 j2)).2
  ·exact (uq i2 (by cases e : kr y with | false => rfl | true => rw [xn e] at j2; cases j2)).1
  ·exact (uq i2 (ac2 j2)).1
 ·rcases hj with ⟨j1, j2⟩ | ⟨j1, j2, j3⟩ | ⟨j1, j2, j3, j4⟩
  ·exact absurd j2 (hS.al i x b hx i2 i3)
  ·exact (uq j2 (ac2 i2)).2
  ·exact aao i3 (.inr j3)
theorem an6 (hS : Stat T C ops) {i j t : Nat} {x y : Oper} (hx : ops[i]? = some x) (hy : ops[j]? = some y) (hi : o7 C ops i t) (hj : t ∈ y.looksAt ops ∨ o7 C ops j t) : dk C ops i x j y = true := by
 obtain ⟨x', hx', hi⟩ := hi
 rw [hx] at hx'; cases hx'
 have hj' : (t ∈ y.looksAt ops ∨ y.dst = some t) ∨ (isO C j = true ∧ t ∈ C.ps) := by
  rcases hj with h | ⟨y', hy', h⟩
  ·exact .inl (.inl h)
  ·rw [hy] at hy'; cases hy'
   rcases h with h | h
   ·exact .inl (.inr h)
   ·exact .inr h
 rcases hi with hi | ⟨hi, hp⟩
 ·rcases hj' with h | ⟨h, hp⟩
  ·exact aao hi h
  ·exact (ams h (acv (ops := ops) (.inr hi) hp)).2
 ·rcases hj' with h | ⟨h, _⟩
  ·exact (ams hi (acv h hp)).1
  ·have k := hS.k3 j y h hy
   exact (qf hi (vr k.1) (ac5 k.1) k.2).1
theorem aot (hcl : ∀ k o, L k → ops[k]? = some o → ∀ p ∈ bk o, L p) (hS : Stat T C ops) (hj : ops[j]? = some o) (hr : ∀ p ∈ bk o, L p) : ∀ i x, i < j → ops[i]? = some x → dk C ops i x j o = true → L i := fun i x hi hx hc =>
 ah3 hcl ((hS.sp j o hj).2 i x hi hx hc) (fun o' ho' => by rw [hj] at ho'; cases ho'; exact hr)
theorem avk (hcl : ∀ k o, L k → ops[k]? = some o → ∀ p ∈ bk o, L p) (hS : Stat T C ops) (hj : ops[j]? = some o) (hnj : ¬ L j) : ∀ i x, j < i → ops[i]? = some x → dk C ops i x j o = true → ¬ L i := fun i x hi hx hc hL =>
 hnj (qs hcl ((hS.sp i x hx).2 j o hi hj (al1 hc)) hL)
variable (hS : Stat T C ops) (hA : alp G C ops σs) (hj : ops[j]? = some o) (hnj : ¬ L j) (ord1 : ∀ i x, i < j → ops[i]? = some x → dk C ops i x j o = true → L i) (ord2 : ∀ i x, j < i → ops[i]? = some x → dk C ops i x j o = true → ¬ L i)
include hj in
theorem lt_size : j < ops.size := by
 rcases Nat.lt_or_ge j ops.size with h | h
 ·exact h
 ·simp [Array.getElem?_eq_none h] at hj
include hj hnj ord1 ord2 in
theorem aox {p : Nat → Prop} (hc : ∀ i x, ops[i]? = some x → i ≠ j → p i → dk C ops i x j o = true) : ∀ i, i < ops.size → p i → (L i ↔ i < j) := by
 intro i hi hp
 obtain ⟨x, hx⟩ : ∃ x, ops[i]? = some x := ⟨ops[i], by simp [hi]⟩
 rcases Nat.lt_trichotomy i j with h | h | h
 ·exact ⟨fun _ => h, fun _ => ord1 i x h hx (hc i x hx (by omega) hp)⟩
 ·subst h; exact ⟨fun h => absurd h hnj, fun h => absurd h (Nat.lt_irrefl _)⟩
 ·exact ⟨fun hL => absurd hL (ord2 i x h hx (hc i x hx (by omega) hp)), fun h' => by omega⟩
include hS hj hnj ord1 ord2 in
theorem get_at (hM : cw G C ops σs L σE) {t : Nat} (ht : t ∈ o.looksAt ops ∨ o7 C ops j t) : σE.get t = (σs j).get t :=
 hM.get t j (Nat.le_of_lt (lt_size hj)) (aox hj hnj ord1 ord2 fun i x hx hne hp => an6 hS hx hj hp ht)
include hS hA hj hnj ord1 ord2 in
theorem zk (hM : cw G C ops σs L σE) {b : Nat} (ht : dz G C ops σs j b) : ct σE b = ct (σs j) b :=
 hM.ct b j (Nat.le_of_lt (lt_size hj)) (aox hj hnj ord1 ord2 fun i x hx hne hp => aqw hS hA hx hj hp ht)
include hst hS hA hj hnj ord2 in
theorem cw.stepG (hM : cw G C ops σs L σE) {σE' : St} (hn : σE'.n = σE.n) (hget1 : ∀ t, o7 C ops j t → σE'.get t = (σs (j + 1)).get t) (hget2 : ∀ t, ¬ o7 C ops j t → σE'.get t = σE.get t)
  (hct1 : ∀ b, dz G C ops σs j b → Ev.ct σE' b = Ev.ct (σs (j + 1)) b) (hct2 : ∀ b, ¬ dz G C ops σs j b → Ev.ct σE' b = Ev.ct σE b)
  (hfl : ∀ b l', lk σE'.heap b = some (true, l') → (∃ l, lk σE.heap b = some (true, l)) ∨ (Fz G C j o (σs j) b ∧ ∃ l, lk (σs (j + 1)).heap b = some (true, l))) (hN : NR C (σs (j + 1))) : cw G C ops σs (fun i => L i ∨ i = j) σE' := by
 have hjs := lt_size hj
 refine ⟨hn.trans hM.n, fun t m hm h => ?_, fun b m hm h => ?_, fun m hm b h l hl l' h0 => ?_, ?_⟩
 ·by_cases ht : o7 C ops j t
  ·rw [hget1 t ht]
   have hjm : j < m := (h j hjs ht).1 (.inr rfl)
   refine (vj hst hjm hm fun i h1 h2 htc => ?_).symm
   obtain ⟨x, hx⟩ : ∃ x, ops[i]? = some x := ⟨ops[i], by simp [show i < ops.size by omega]⟩
   have hL := (h i (by omega) htc).2 h2
   rcases hL with hL | hL
   ·exact ord2 i x (by omega) hx (an6 hS hx hj htc (.inr ht)) hL
   ·omega
  ·rw [hget2 t ht]
   refine hM.get t m hm fun i hi htc => ?_
   have := h i hi htc
   have hne : i ≠ j := by rintro rfl; exact ht htc
   exact ⟨fun hL => this.1 (.inl hL), fun hlt => (this.2 hlt).resolve_right hne⟩
 ·by_cases hb : dz G C ops σs j b
  ·rw [hct1 b hb]
   have hjm : j < m := (h j hjs hb).1 (.inr rfl)
   refine (adt hst hjm hm fun i h1 h2 htc => ?_).symm
   obtain ⟨x, hx⟩ : ∃ x, ops[i]? = some x := ⟨ops[i], by simp [show i < ops.size by omega]⟩
   have hL := (h i (by omega) htc).2 h2
   rcases hL with hL | hL
   ·exact ord2 i x (by omega) hx (aqw hS hA hx hj htc hb) hL
   ·omega
  ·rw [hct2 b hb]
   refine hM.ct b m hm fun i hi htc => ?_
   have := h i hi htc
   have hne : i ≠ j := by rintro rfl; exact hb htc
   exact ⟨fun hL => this.1 (.inl hL), fun hlt => (this.2 hlt).resolve_right hne⟩
 ·rcases hfl b l' h0 with ⟨l2, h2⟩ | ⟨hlt, h2⟩
  ·exact hM.fl m hm b (fun i x hx hlx hL => h i x hx hlx (.inl hL)) l hl l2 h2
  ·have hjm : j < m := h j o hj hlt (.inr rfl)
   obtain ⟨l3, h3⟩ := zf hst hjm hm h2
   rw [hl] at h3; cases h3
 ·rcases hN with hN | ⟨n1, n2⟩
  ·exact .inl hN
  rcases hM.nr with hE | ⟨e1, e2⟩
  ·exact .inl hE
  have row : ∀ (σ τ : St) b, Ev.ct τ b = Ev.ct σ b → (∀ f l, lk σ.heap b = some (f, l) → A.nrs C.V l = true) → ∀ f l, lk τ.heap b = some (f, l) → A.nrs C.V l = true := by
   intro σ τ b hc hr f l hl
   unfold Ev.ct at hc
   rw [hl] at hc
   cases e : lk σ.heap b with
   | none => rw [e] at hc; cases hc
   | some y =>
    obtain ⟨f', l'⟩ := y
    rw [e] at hc
    simp only [Option.map_some, Option.some.injEq] at hc
    rw [hc]; exact hr f' l' e
  refine .inr ⟨fun t ht => ?_, fun b f l hb hl => ?_⟩
  ·by_cases h : o7 C ops j t
   ·rw [hget1 t h]; exact n1 t ht
   ·rw [hget2 t h]; exact e1 t ht
  ·by_cases h : dz G C ops σs j b
   ·exact row _ _ b (hct1 b h) (fun f l => n2 b f l hb) f l hl
   ·exact row _ _ b (hct2 b h) (fun f l => e2 b f l hb) f l hl
include hS hj hnj ord1 ord2 in
theorem as5 (hM : cw G C ops σs L σE) : aff G o (σs j) σE := by
 intro x hx
 cases x with
 | tmp t => exact get_at hS hj hnj ord1 ord2 hM (.inl (acw hx))
 | _ => rfl
include hS hj hnj ord1 ord2 in
theorem azl (hM : cw G C ops σs L σE) (hg : a8 ops o (σs j)) : a8 ops o σE := by
 rcases hg with hg | ⟨k, want, g, h1, h2, h3⟩
 ·exact .inl hg
 ·exact .inr ⟨k, want, g, h1, h2, by rw [get_at hS hj hnj ord1 ord2 hM (.inl (r8 h1 h2))]; exact h3⟩
include hS hj hnj ord1 ord2 in
theorem a2b (hM : cw G C ops σs L σE) (hg : mh ops o (σs j)) : mh ops o σE := by
 obtain ⟨k, want, g, h1, h2, h3⟩ := hg
 exact ⟨k, want, g, h1, h2, by rw [get_at hS hj hnj ord1 ord2 hM (.inl (r8 h1 h2))]; exact h3⟩
include hst in
theorem axe {i b : Nat} {x : Oper} (hx : ops[i]? = some x) (h0 : isO C i = false) (h : kindOf x.op = 1 ∧ x.dst = some b ∧ a8 ops x (σs i)) : lk (σs i).heap b = none ∧ lk (σs (i + 1)).heap b ≠ none := by
 have hs := hst i x hx
 cases hs with
 | skip hc _ _ _ _ => rw [h0] at hc; cases hc
 | own hc => rw [h0] at hc; cases hc
 | old hc hw hs =>
  obtain ⟨τ0, hs, _, _, hh⟩ := hs
  cases hs with
  | skip hg _ => exact (qu h.2.2 hg).elim
  | lt hg hl _ _ _ => rw [gm hl] at h; exact absurd h.1 (by decide)
  | st hg hs _ _ _ _ _ _ => rw [(c9 hs).1] at h; exact absurd h.1 (by decide)
  | val hg hk _ _ _ _ => rw [h.1] at hk; cases hk
  | call hg hk _ _ _ _ _ _ _ => rw [h.1] at hk; cases hk
  | wr hg hk _ _ _ _ _ _ => rw [h.1] at hk; cases hk
  | new hg hk d hd r l hf he t =>
   rw [h.2.1] at hd; cases hd
   refine ⟨hf, ?_⟩
   rw [hh, he]
   simp [St.put, St.new, lk]
include hst hS hA hj hnj ord1 ord2 in
theorem ag2 (hcl : ∀ k o, L k → ops[k]? = some o → ∀ p ∈ bk o, L p) (hrel : Rel G w0 M S0 σE a w β S) (hM : cw G C ops σs L σE) (hk1 : kindOf o.op ≠ 1) (hk2 : ej o = false) (hlt : kr o = false) :
  ∀ x ∈ o.op.operands, ∀ b, cv ((σs j).ev G x) b → (isO C j = true → b ∉ C.W) → ∀ fr l, (σs j).hp b = some (fr, l) → ∃ fr', σE.hp b = some (fr', l) := by
 intro x hx b hrf' hO fr l hl
 have hsame := as5 hS hj hnj ord1 ord2 hM x hx
 have hne := ag3 (G := G) hrel (x := x) (b := b) (by rw [hsame]; exact hrf')
 have hjs := lt_size hj
 have hl' : lk (σs j).heap b = some (fr, l) := hl
 have hcw : ∀ i y, ops[i]? = some y → ((isO C i = true ∧ b ∈ C.W) ∨ (isO C i = false ∧ ej y = true ∧ stb G y (σs i) b)) → dk C ops i y j o = true := fun i y hy hyt => by
  rcases hyt with ⟨h1, h2⟩ | ⟨h1, h2, h3⟩
  ·refine (qf h1 hlt hk1 ?_).1
   cases e : C.fs.contains j with
   | false => rfl
   | true => exact (hA j o b e hj h2 ⟨x, hx, hrf'⟩).elim
  ·exact (uq h2 hlt).1
 have hall : ∀ i x, i < j → ops[i]? = some x → isO C i = false → (kindOf x.op = 1 ∧ x.dst = some b ∧ a8 ops x (σs i)) → L i := by
  intro i0 x0 hi0 hx0 ho0 hm0
  refine Classical.byContradiction fun hn0 => ?_
  obtain ⟨hnone, hsome⟩ := axe hst hx0 ho0 hm0
  have hcons : ∀ i, i < ops.size → dz G C ops σs i b → (L i ↔ i < i0) := by
   rintro i hi hyt
   have t0 : dz G C ops σs i0 b := ⟨x0, hx0, .inr (.inr ⟨ho0, hm0⟩)⟩
   obtain ⟨y, hy, hyc⟩ := hyt
   rcases Nat.lt_trichotomy i i0 with h | h | h
   ·refine ⟨fun _ => h, fun _ => ?_⟩
    rcases hyc with hyc | hyc | ⟨y1, y2⟩
    ·exact ord1 i y (by omega) hy (hcw i y hy (.inl hyc))
    ·exact ord1 i y (by omega) hy (hcw i y hy (.inr hyc))
    ·obtain ⟨_, h2⟩ := axe hst hy y1 y2
     exact absurd hnone (yy hst (a := i + 1) (by omega) (by omega) h2)
   ·subst h
    exact ⟨fun h => absurd h hn0, fun h => absurd h (Nat.lt_irrefl _)⟩
   ·refine ⟨fun hL => ?_, fun h' => by omega⟩
    exfalso
    have hc := aqw hS hA hx0 hy t0 ⟨y, hy, hyc⟩
    exact hn0 (qs hcl ((hS.sp i y hy).2 i0 x0 h hx0 hc) hL)
  have := hM.ct b i0 (by omega) hcons
  unfold ct at this
  rw [hnone] at this
  exact hne (by simpa using this)
 have hcons : ∀ i, i < ops.size → dz G C ops σs i b → (L i ↔ i < j) := by
  rintro i hi ⟨y, hy, hyt⟩
  rcases Nat.lt_trichotomy i j with h | h | h
  ·refine ⟨fun _ => h, fun _ => ?_⟩
   rcases hyt with hyt | hyt | ⟨y1, y2⟩
   ·exact ord1 i y h hy (hcw i y hy (.inl hyt))
   ·exact ord1 i y h hy (hcw i y hy (.inr hyt))
   ·exact hall i y h hy y1 y2
  ·subst h
   rw [hj] at hy; cases hy
   rcases hyt with hyt | hyt | ⟨y1, y2⟩
   ·exact absurd hyt.2 (hO hyt.1)
   ·rw [hk2] at hyt; cases hyt.2.1
   ·exact absurd y2.1 hk1
  ·refine ⟨fun hL => ?_, fun h' => by omega⟩
   exfalso
   rcases hyt with hyt | hyt | ⟨y1, y2⟩
   ·exact ord2 i y h hy (hcw i y hy (.inl hyt)) hL
   ·exact ord2 i y h hy (hcw i y hy (.inr hyt)) hL
   ·obtain ⟨h1, _⟩ := axe hst hy y1 y2
    exact absurd h1 (yy hst (a := j) (Nat.le_of_lt h) (by omega) (by rw [hl']; simp))
 have := hM.ct b j (Nat.le_of_lt hjs) hcons
 unfold ct at this
 rw [hl'] at this
 simp only [Option.map_some, Option.map_eq_some_iff] at this
 obtain ⟨y, hy, e⟩ := this
 obtain ⟨fr', l'⟩ := y
 exact ⟨fr', by rw [← e]; exact hy⟩
include hS hj hnj ord1 ord2 in
theorem a06 (hM : cw G C ops σs L σE) {d : Nat} (hk : kindOf o.op = 1) (hd : o.dst = some d) (hn : lk (σs j).heap d = none) : lk σE.heap d = none := by
 have hcons := aox (p := fun i => dz G C ops σs i d) hj hnj ord1 ord2 fun i y hy hne ⟨y', hy', hyt⟩ => by
  rw [hy] at hy'; cases hy'
  rcases hyt with hyt | hyt | hyt
  ·exact absurd hyt.2 (hS.al j o d hj hk hd)
  ·exact (uq hyt.2.1 (ac2 hk)).1
  ·exact aao hyt.2.2.1 (.inr hd)
 have := hM.ct d j (Nat.le_of_lt (lt_size hj)) hcons
 unfold ct at this
 rw [hn] at this
 simpa using this
end
end Dw
end Go.Ev
