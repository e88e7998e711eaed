/- What an operation gives does not hang on what else has been done: toward regions that draw their order. -/
import Derived.Test.YtmgbegcamhkblaaDoorEvJ
set_option linter.unusedSimpArgs false
set_option linter.unusedVariables false
namespace Go.Ev
open Go

/-- The same whatever comes behind. -/
def Det (F : (A → Prop) → Prop) : Prop := ∀ K, F K → ∃ r, K r ∧ ∀ K', K' r → F K'

section
variable {T : Tab} {hp : Nat → Option (Bool × List A)}
theorem Det.tySlice {t : Nat} {F : Nat → Ty → (A → Prop) → Prop} (h : ∀ e y, Det (F e y)) : Det (fun K => Ev.tySlice T t fun e y => F e y K) := by
  intro K hk
  unfold Ev.tySlice at hk ⊢
  split at hk
  · split at hk
    · split at hk
      · obtain ⟨r, h1, h2⟩ := h _ _ K hk
        exact ⟨r, h1, fun K' h' => h2 K' h'⟩
      · exact hk.elim
    · exact hk.elim
  · exact hk.elim
theorem Det.tyArray {t : Nat} {F : Nat → Nat → Ty → (A → Prop) → Prop} (h : ∀ n e y, Det (F n e y)) : Det (fun K => Ev.tyArray T t fun n e y => F n e y K) := by
  intro K hk
  unfold Ev.tyArray at hk ⊢
  split at hk
  · split at hk
    · split at hk
      · obtain ⟨r, h1, h2⟩ := h _ _ _ K hk
        exact ⟨r, h1, fun K' h' => h2 K' h'⟩
      · exact hk.elim
    · exact hk.elim
  · exact hk.elim
theorem Det.tyStruct {t : Nat} {F : List (Nat × Nat × Bool) → (A → Prop) → Prop} (h : ∀ l, Det (F l)) : Det (fun K => Ev.tyStruct T t fun l => F l K) := by
  intro K hk
  unfold Ev.tyStruct at hk ⊢
  split at hk
  · split at hk
    · obtain ⟨r, h1, h2⟩ := h _ K hk
      exact ⟨r, h1, fun K' h' => h2 K' h'⟩
    · exact hk.elim
  · exact hk.elim
theorem Det.pure (r : A) : Det (fun K => K r) := fun _ h => ⟨r, h, fun _ h' => h'⟩
theorem Det.cd {c : Prop} {F : (A → Prop) → Prop} (h : Det F) : Det (fun K => Cd c (F K)) := fun K hk =>
  let ⟨r, h1, h2⟩ := h K hk.k
  ⟨r, h1, fun K' h' => ⟨hk.c, h2 K' h'⟩⟩
theorem Det.false : Det (fun _ => False) := fun _ h => h.elim
theorem Det.eqE {α : Type} {x : α} {f : α → A} : Det (fun K => EqE x fun y => K (f y)) := fun K ⟨y, hy, hk⟩ => ⟨_, hk, fun K' h' => ⟨y, hy, h'⟩⟩
theorem Det.nth {α : Type} {l : List α} {i : Nat} {f : α → A} : Det (fun K => NthE l i fun x => K (f x)) := fun K ⟨x, hx, hk⟩ => ⟨_, hk, fun K' h' => ⟨x, hx, h'⟩⟩
theorem Det.tk {α : Type} {l : List α} {o s : Nat} {f : List α → A} : Det (fun K => TkE l o s fun x => K (f x)) := fun K ⟨x, hx, hl, hk⟩ => ⟨_, hk, fun K' h' => ⟨x, hx, hl, h'⟩⟩
theorem Det.bound {x : Option A} {d : Int} {F : Int → (A → Prop) → Prop} (h : ∀ i, Det (F i)) : Det (fun K => boundEv x d fun i => F i K) := by
  intro K hk
  unfold boundEv at hk ⊢
  split at hk
  · obtain ⟨r, h1, h2⟩ := h _ K hk
    exact ⟨r, h1, fun K' h' => h2 K' h'⟩
  · obtain ⟨r, h1, h2⟩ := h _ K hk
    exact ⟨r, h1, fun K' h' => h2 K' h'⟩
  · exact hk.elim

theorem intBin_det (op : BinOp) (k : IntKind) (x y : Int) : Det (intBin op k x y) := by
  cases op <;> first | exact Det.pure _ | exact Det.eqE | exact Det.cd Det.eqE | exact Det.false
/-- Not a comparison with nil. -/
def safeBin (T : Tab) (xT : Nat) : Bool := !((T xT).any Ty.isSl)
theorem binEv_det {op : BinOp} {xT : Nat} {a b : A} (hs : safeBin T xT = true) : Det (binEv T op xT a b) := by
  intro K h
  unfold binEv at h ⊢
  split at h
  · split at h
    · exact Det.cd Det.eqE K h
    · exact Det.cd Det.eqE K h
    · rename_i h1 h2
      obtain ⟨r, h3, h4⟩ := Det.cd (intBin_det _ _ _ _) K h
      exact ⟨r, h3, fun K' h' => h4 K' h'⟩
  · obtain ⟨hc, h⟩ := h
    split at h
    · exact ⟨_, h, fun K' h' => ⟨hc, h'⟩⟩
    · exact ⟨_, h, fun K' h' => ⟨hc, h'⟩⟩
    · exact h.elim
  · split at h
    · exact Det.cd (Det.pure _) K h
    all_goals first | exact ⟨_, h, fun K' h' => h'⟩ | exact h.elim
  · exfalso
    have hc := h.c
    unfold safeBin at hs
    rw [hc] at hs
    exact absurd hs (by decide)
  · exact h.elim
theorem unEv_det {op : UnOp} {a : A} : Det (unEv op a) := by
  intro K h
  unfold unEv at h ⊢
  split at h
  all_goals first | exact Det.eqE K h | exact ⟨_, h, fun K' h' => h'⟩ | exact h.elim
theorem partEv_det {g : Bool} {o s : Nat} {x : A} : Det (partEv g o s x) := by
  intro K h
  unfold partEv at h ⊢
  split at h
  · split at h
    · exact Det.tk K h
    · exact Det.nth K h
  · split at h
    · exact Det.tk K h
    · exact Det.nth K h
  · exact h.elim
theorem loadEv_det {t : Nat} {a : A} : Det (loadEv T hp t a) := by
  intro K h
  unfold loadEv at h ⊢
  split at h
  · split at h
    · split at h
      · split at h
        · exact Det.tk K h
        · exact Det.nth K h
      · exact h.elim
    · split at h
      · exact Det.tk K h
      · exact Det.nth K h
    · exact h.elim
  · exact h.elim
theorem fieldAddrEv_det {s f : Nat} {a : A} : Det (fieldAddrEv T s a f) := by
  unfold fieldAddrEv
  refine Det.tyStruct fun l => ?_
  intro K h
  split at h
  · split at h
    · exact ⟨_, h, fun K' h' => h'⟩
    · exact ⟨_, h, fun K' h' => h'⟩
    · exact h.elim
  · exact h.elim
theorem fieldEv_det {s f : Nat} {a : A} : Det (fieldEv T s a f) := by
  unfold fieldEv
  refine Det.tyStruct fun l => ?_
  intro K h
  split at h
  · exact partEv_det K h
  · exact h.elim
theorem indexAddrEv_det {t : Nat} {x i : A} : Det (indexAddrEv T t x i) := by
  intro K h
  unfold indexAddrEv at h ⊢
  split at h
  · split at h
    · exact Det.tySlice (fun _ _ => Det.cd (Det.pure _)) K h
    · exact Det.tySlice (fun _ _ => Det.cd (Det.cd (Det.pure _))) K h
    · exact Det.tyArray (fun _ _ _ => Det.cd (Det.pure _)) K h
    · exact Det.tyArray (fun _ _ _ => Det.cd (Det.pure _)) K h
    · exact h.elim
  · exact h.elim
theorem indexEv_det {t : Nat} {x i : A} : Det (indexEv T t x i) := by
  intro K h
  unfold indexEv at h ⊢
  split at h
  · split at h
    · exact Det.cd (Det.cd Det.eqE) K h
    · rename_i h1
      obtain ⟨r, h3, h4⟩ := Det.tyArray (fun _ _ _ => Det.cd partEv_det) K h
      exact ⟨r, h3, fun K' h' => h4 K' h'⟩
  · exact h.elim
theorem convEv_det {s d : Nat} {a : A} : Det (convEv T s d a) := by
  intro K h
  unfold convEv at h ⊢
  split at h
  · obtain ⟨hc, h⟩ := h
    split at h
    · split at h
      · obtain ⟨z, hz, h⟩ := h
        exact ⟨_, h, fun K' h' => ⟨hc, z, hz, h'⟩⟩
      · exact h.elim
    · exact h.elim
  · exact Det.cd (Det.cd (Det.pure _)) K h
  · exact h.elim
theorem fillA_det {place : Nat → Option (Nat × Nat)} : ∀ {parts : List (Nat × A)} {cells : List A} {K : List A → Prop}, fillA place cells parts K → ∃ c, K c ∧ ∀ K', K' c → fillA place cells parts K'
  | [], cells, K, h => ⟨cells, h, fun _ h' => h'⟩
  | (i, v) :: rest, cells, K, h => by
    simp only [fillA] at h ⊢
    split at h
    · exact h.elim
    · obtain ⟨h1, h2, h3, h⟩ := h
      rw [forceL_eq] at h
      obtain ⟨c, h4, h5⟩ := fillA_det h
      exact ⟨c, h4, fun K' h' => ⟨h1, h2, h3, by rw [forceL_eq]; exact h5 K' h'⟩⟩
theorem buildEv_det {t : Nat} {parts : List (Nat × A)} : Det (buildEv T t parts) := by
  intro K h
  unfold buildEv at h ⊢
  split at h
  · obtain ⟨hc, h⟩ := h
    split at h
    · obtain ⟨c, h4, h5⟩ := fillA_det h
      exact ⟨_, h4, fun K' h' => ⟨hc, h5 _ h'⟩⟩
    · split at h
      · obtain ⟨c, h4, h5⟩ := fillA_det h
        exact ⟨_, h4, fun K' h' => ⟨hc, h5 _ h'⟩⟩
      · exact h.elim
    · exact h.elim
  · exact h.elim
theorem sliceEv_det {t : Nat} {x : A} {lo hi mx : Option A} : Det (sliceEv T hp t x lo hi mx) := by
  intro K h
  unfold sliceEv at h ⊢
  split at h
  · exact h.elim
  · split at h
    · exact Det.cd (Det.bound fun _ => Det.bound fun _ => Det.cd (Det.pure _)) K h
    · exact Det.tySlice (fun _ _ => Det.bound fun _ => Det.bound fun _ => Det.cd Det.eqE) K h
    · exact Det.tySlice (fun _ _ => Det.cd (Det.bound fun _ => Det.bound fun _ => Det.cd (Det.pure _))) K h
    · split at h
      · exact Det.tyArray (fun _ _ _ => Det.cd (Det.bound fun _ => Det.bound fun _ => Det.cd (Det.pure _))) K h
      · exact h.elim
    · exact h.elim
theorem lenEv_det {t : Nat} {x : A} : Det (lenEv T t x) := by
  intro K h
  unfold lenEv at h ⊢
  split at h
  · exact Det.tySlice (fun _ _ => Det.pure _) K h
  · exact Det.tySlice (fun _ _ => Det.pure _) K h
  · exact Det.tySlice (fun _ _ => Det.pure _) K h
  · exact Det.cd (Det.pure _) K h
  · rename_i h1 h2 h3 h4
    obtain ⟨r, h5, h6⟩ := Det.tyArray (fun _ _ _ => Det.pure _) K h
    exact ⟨r, h5, fun K' h' => h6 K' h'⟩
theorem maxEv_det {b : Bool} {l : List A} : Det (maxEv b l) := by
  intro K h
  unfold maxEv at h ⊢
  split at h
  · exact Det.eqE K h
  · exact h.elim
theorem extractEv_det {x : A} {i : Nat} : Det (extractEv x i) := by
  intro K h
  unfold extractEv at h ⊢
  split at h
  · exact Det.nth K h
  · exact h.elim
theorem pickEv_det {c a b : A} : Det (pickEv c a b) := by
  intro K h
  unfold pickEv at h ⊢
  split at h
  · rename_i t
    cases t with
    | true => exact ⟨_, h.tt rfl, fun K' h' => ⟨fun _ => h', (fun e => nomatch e)⟩⟩
    | false => exact ⟨_, h.ff rfl, fun K' h' => ⟨(fun e => nomatch e), fun _ => h'⟩⟩
  · exact h.elim

/-- Operations whose value is settled, whatever the order. -/
def safeOp (T : Tab) : Op → Bool
  | .binOp _ xT _ _ _ => safeBin T xT
  | _ => true

theorem valEv_det {ev : Operand → A} {op : Op} (hs : safeOp T op = true) : Det (valEv T ev hp op) := by
  intro K h
  unfold valEv at h ⊢
  split at h
  · exact ⟨_, h, fun K' h' => h'⟩
  · exact ⟨_, h, fun K' h' => h'⟩
  · exact pickEv_det K h
  · exact buildEv_det K h
  · exact loadEv_det K h
  · split at h
    · exact ⟨_, h, fun K' h' => h'⟩
    · exact ⟨_, h, fun K' h' => h'⟩
    · exact h.elim
  · exact binEv_det hs K h
  · exact unEv_det K h
  · exact convEv_det K h
  · exact sliceEv_det K h
  · exact fieldAddrEv_det K h
  · exact fieldEv_det K h
  · exact indexAddrEv_det K h
  · exact indexEv_det K h
  · exact extractEv_det K h
  · split at h
    · split at h
      · exact lenEv_det K h
      · exact h.elim
    · exact maxEv_det K h
    · exact maxEv_det K h
    · exact h.elim
  · exact h.elim

mutual
def refs1 : A → Nat → Prop
  | .ptr b _, c => b = c
  | .own b _ _ _, c => b = c
  | .agg l, c => refs1s l c
  | _, _ => False
def refs1s : List A → Nat → Prop
  | [], _ => False
  | x :: l, c => refs1 x c ∨ refs1s l c
end

theorem loadEv_hp {hp' : Nat → Option (Bool × List A)} {t : Nat} {a : A} {K : A → Prop} (hh : ∀ b, refs1 a b → ∀ fr l, hp b = some (fr, l) → ∃ fr', hp' b = some (fr', l)) (h : loadEv T hp t a K) : loadEv T hp' t a K := by
  unfold loadEv at h ⊢
  split at h
  · split at h
    · rename_i b o
      split at h
      · rename_i fr l hl
        obtain ⟨fr', hl'⟩ := hh b rfl fr l hl
        simp only [hl']
        exact h
      · exact h.elim
    · exact h
    · exact h.elim
  · exact h.elim
theorem sliceEv_hp {hp' : Nat → Option (Bool × List A)} {t : Nat} {a : A} {lo hi mx : Option A} {K : A → Prop} (hh : ∀ b, refs1 a b → ∀ fr l, hp b = some (fr, l) → ∃ fr', hp' b = some (fr', l)) (h : sliceEv T hp t a lo hi mx K) : sliceEv T hp' t a lo hi mx K := by
  unfold sliceEv at h ⊢
  split at h
  · exact h.elim
  · split at h
    · exact h
    · exact h
    · exact h
    · rename_i b o
      split at h
      · rename_i fr l hl
        obtain ⟨fr', hl'⟩ := hh b rfl fr l hl
        simp only [hl']
        exact h
      · exact h.elim
    · exact h.elim

theorem parts_congr {ev ev' : Operand → A} : ∀ {l : List (Nat × Operand)}, (∀ p ∈ l, ev' p.2 = ev p.2) → (l.map fun p => (p.1, ev' p.2)) = l.map fun p => (p.1, ev p.2)
  | [], _ => rfl
  | p :: l, h => by
    simp only [List.map_cons]
    rw [h p (by simp), parts_congr fun q hq => h q (by simp [hq])]

theorem valEv_tr {ev ev' : Operand → A} {hp' : Nat → Option (Bool × List A)} {op : Op} {K : A → Prop} (he : ∀ x ∈ op.operands, ev' x = ev x)
    (hh : ∀ x ∈ op.operands, ∀ b, refs1 (ev x) b → ∀ fr l, hp b = some (fr, l) → ∃ fr', hp' b = some (fr', l)) (h : valEv T ev hp op K) : valEv T ev' hp' op K := by
  cases op with
  | move x => simp only [valEv] at h ⊢; rw [he x (by simp [Op.operands])]; exact h
  | assign x => simp only [valEv] at h ⊢; rw [he x (by simp [Op.operands])]; exact h
  | pick c a b => simp only [valEv] at h ⊢; rw [he c (by simp [Op.operands]), he a (by simp [Op.operands]), he b (by simp [Op.operands])]; exact h
  | build t ps =>
    simp only [valEv] at h ⊢
    rw [parts_congr fun p hp => he p.2 (by simp only [Op.operands]; simp; exact ⟨p.1, by simpa using hp⟩)]
    exact h
  | load t x =>
    simp only [valEv] at h ⊢
    rw [he x (by simp [Op.operands])]
    exact loadEv_hp (hh x (by simp [Op.operands])) h
  | nilCheck x => simp only [valEv] at h ⊢; rw [he x (by simp [Op.operands])]; exact h
  | binOp op xT x y yT => simp only [valEv] at h ⊢; rw [he x (by simp [Op.operands]), he y (by simp [Op.operands])]; exact h
  | unOp op t x => simp only [valEv] at h ⊢; rw [he x (by simp [Op.operands])]; exact h
  | convert s d x => simp only [valEv] at h ⊢; rw [he x (by simp [Op.operands])]; exact h
  | slice t x lo hi mx =>
    simp only [valEv] at h ⊢
    have e1 : lo.map ev' = lo.map ev := by cases lo with | none => rfl | some l => simp [he l (by simp [Op.operands])]
    have e2 : hi.map ev' = hi.map ev := by cases hi with | none => rfl | some l => simp [he l (by simp [Op.operands])]
    have e3 : mx.map ev' = mx.map ev := by cases mx with | none => rfl | some l => simp [he l (by simp [Op.operands])]
    rw [he x (by simp [Op.operands]), e1, e2, e3]
    exact sliceEv_hp (hh x (by simp [Op.operands])) h
  | fieldAddr s x f => simp only [valEv] at h ⊢; rw [he x (by simp [Op.operands])]; exact h
  | field s x f => simp only [valEv] at h ⊢; rw [he x (by simp [Op.operands])]; exact h
  | indexAddr t x i => simp only [valEv] at h ⊢; rw [he x (by simp [Op.operands]), he i (by simp [Op.operands])]; exact h
  | index t x i => simp only [valEv] at h ⊢; rw [he x (by simp [Op.operands]), he i (by simp [Op.operands])]; exact h
  | extract x i => simp only [valEv] at h ⊢; rw [he x (by simp [Op.operands])]; exact h
  | call c =>
    obtain ⟨callee, args, at_⟩ := c
    have hargs : args.toList.map ev' = args.toList.map ev := List.map_congr_left fun x hx => he x (by simp only [Op.operands, Call.operands]; simp; exact .inr (by simpa using hx))
    simp only [valEv] at h ⊢
    split at h
    · split at h
      · rename_i t x ht hx
        rw [hx] at hargs
        simp only [List.map_cons, List.map_nil, List.cons.injEq, and_true] at hargs
        rw [hargs]
        exact h
      · exact h.elim
    · rw [hargs]; exact h
    · rw [hargs]; exact h
    · exact h.elim
  | _ => exact h.elim
end
end Go.Ev
