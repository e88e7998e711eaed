/- What a claim's readings say, as data. -/
import Derived.Test.YtmgbegcamhkblaaDoorEvZ
import Derived.Lib.LaidTab
import Derived.Deep.Slices
set_option linter.unusedSimpArgs false
set_option linter.unusedVariables false
namespace Go.Ev
open Go

/-- The shape of plain data. -/
inductive Sh where
  | bool
  | int (k : IntKind)
  | str
  | slice (e : Sh)
  | struct (fs : List Sh)

mutual
/-- How many cells. -/
def Sh.size : Sh → Nat
  | .struct fs => Sh.sizes fs
  | _ => 1
def Sh.sizes : List Sh → Nat
  | [] => 0
  | f :: fs => f.size + Sh.sizes fs
end

mutual
/-- Cells of that shape. -/
def Sh.has : Sh → List D → Prop
  | .bool, ds => ∃ b, ds = [.bool b]
  | .int k, ds => ∃ n, ds = [.int k n] ∧ k.min ≤ n ∧ n ≤ k.max
  | .str, ds => ∃ s : ByteArray, ds = [.str s] ∧ s.size ≤ maxLen
  | .slice e, ds => ∃ n ls, ds = [.slice n (List.flatten ls)] ∧ ls.length = n ∧ n ≤ maxLen ∧ ∀ l ∈ ls, e.has l
  | .struct fs, ds => Sh.hasAll fs ds
def Sh.hasAll : List Sh → List D → Prop
  | [], ds => ds = []
  | f :: fs, ds => ∃ a b, ds = a ++ b ∧ f.has a ∧ Sh.hasAll fs b
end

mutual
def Sh.chk (P : Program) : Sh → TypeId → Bool
  | .bool, t => match P.underlying t with | some .bool => true | _ => false
  | .int k, t => match P.underlying t with | some (.int k') => k == k' | _ => false
  | .str, t => match P.underlying t with | some .string => true | _ => false
  | .slice e, t => match P.underlying t with | some (.slice t') => P.cellsOf t' == e.size && e.size != 0 && e.chk P t' | _ => false
  | .struct fs, t => match P.underlying t with | some (.struct l) => P.cellsOf t == Sh.sizes fs && Sh.chkAll P fs 0 l.toList | _ => false
def Sh.chkAll (P : Program) : List Sh → Nat → List Field → Bool
  | [], _, [] => true
  | s :: ss, o, f :: fs => f.offset == o && P.cellsOf f.type == s.size && s.chk P f.type && Sh.chkAll P ss (o + s.size) fs
  | _, _, _ => false
end

/-- All cells that there are. -/
def allImm (w : World) : Imm := fun k _ => k < w.heap.size

section
variable {H : Type} {enc : TypeId × Value → H} {P : Program} {w : World} {base : Nat} {spare : Nat → Bool} {held : Bool}

theorem mapM_some {α β : Type} {f : α → Option β} : ∀ {l : List α} {r : List β}, l.mapM f = some r → r.length = l.length ∧ ∀ (i : Nat) (a : α), l[i]? = some a → ∃ b, r[i]? = some b ∧ f a = some b
  | _, _, h => ⟨Lib.mapM_length h, fun i a ha => Lib.mapM_at h i a ha⟩

theorem DRs_append {S : Imm} : ∀ {xs ys : List D} {us vs : List Value}, DRs S w xs us → DRs S w ys vs → DRs S w (xs ++ ys) (us ++ vs)
  | [], ys, us, vs, h1, h2 => by simp only [DRs] at h1; subst h1; simpa using h2
  | x :: xs, ys, us, vs, h1, h2 => by
    simp only [DRs] at h1
    obtain ⟨u, us', rfl, h3, h4⟩ := h1
    exact ⟨u, us' ++ vs, rfl, h3, DRs_append h4 h2⟩
theorem DRL_append {S : Imm} {b : Nat} : ∀ {xs ys : List D} {o : Nat}, DRL S w b o xs → DRL S w b (o + xs.length) ys → DRL S w b o (xs ++ ys)
  | [], ys, o, _, h2 => by simpa using h2
  | x :: xs, ys, o, h1, h2 => by
    simp only [DRL] at h1
    simp only [List.cons_append, DRL]
    refine ⟨h1.1, h1.2.1, DRL_append h1.2.2 ?_⟩
    rw [List.length_cons] at h2
    rwa [show o + 1 + xs.length = o + (xs.length + 1) by omega]
theorem cells_of_cells? {a : Addr} {n : Nat} {vs : List Value} (h : w.cells? base a n = some vs) : vs.length = n ∧ ∀ j, j < n → w.cell? (a.add j) = vs[j]? := by
  unfold World.cells? at h
  split at h
  · obtain ⟨h1, h2⟩ := mapM_some h
    simp only [List.length_range] at h1
    refine ⟨h1, fun j hj => ?_⟩
    obtain ⟨b, hb, hf⟩ := h2 j j (by simp [hj])
    rw [hb, hf]
  · cases h
theorem spot_none {a : Addr} {v : Value} (h : w.cell? a = some v) : a.spot = none ∧ a.block < w.heap.size := by
  unfold World.cell? at h
  split at h
  · rename_i c _ _ hc
    refine ⟨?_, (Array.getElem?_eq_some_iff.1 hc).1⟩
    split at h
    · cases h
    · rename_i hs; simpa using hs
  · cases h
/-- Cells that are data, in memory. -/
theorem DRL_of_cells {a : Addr} {n : Nat} {vs : List Value} {ds : List D} (hs : a.spot = none) (h : w.cells? base a n = some vs) (hd : DRs (allImm w) w ds vs) : DRL (allImm w) w a.block a.off ds := by
  obtain ⟨h1, h2⟩ := cells_of_cells? h
  have hl := DRs_length hd
  refine DRL_mk fun j x hj => ?_
  obtain ⟨u, hu, hR⟩ := DRs_get hd hj
  have hjn : j < n := by have := (List.getElem?_eq_some_iff.1 hu).1; omega
  have hc := h2 j hjn
  rw [hu] at hc
  have ha : a.add j = ⟨a.block, a.off + j, none⟩ := by
    obtain ⟨b, o, s⟩ := a
    simp only at hs; subst hs
    exact add_none b o j
  rw [ha] at hc
  exact ⟨(spot_none hc).2, u, hc, hR⟩

mutual
theorem Sh.has_len : ∀ {s : Sh} {ds : List D}, s.has ds → ds.length = s.size
  | .bool, ds, h => by obtain ⟨b, rfl⟩ := h; rfl
  | .int k, ds, h => by obtain ⟨n, rfl, _⟩ := h; rfl
  | .str, ds, h => by obtain ⟨n, rfl, _⟩ := h; rfl
  | .slice e, ds, h => by obtain ⟨n, ls, rfl, _⟩ := h; rfl
  | .struct fs, ds, h => by simp only [Sh.has] at h; simp only [Sh.size]; exact Sh.hasAll_len h
theorem Sh.hasAll_len : ∀ {fs : List Sh} {ds : List D}, Sh.hasAll fs ds → ds.length = Sh.sizes fs
  | [], ds, h => by simp only [Sh.hasAll] at h; subst h; rfl
  | f :: fs, ds, h => by
    simp only [Sh.hasAll] at h
    obtain ⟨a, b, rfl, h1, h2⟩ := h
    simp only [List.length_append, Sh.sizes, Sh.has_len h1, Sh.hasAll_len h2]
end
theorem DRL_flat {S : Imm} {b : Nat} {n : Nat} : ∀ {ls : List (List D)} {o : Nat}, (∀ l ∈ ls, l.length = n) → (∀ j l, ls[j]? = some l → DRL S w b (o + j * n) l) → DRL S w b o ls.flatten
  | [], o, _, _ => by simp [DRL]
  | l :: ls, o, h1, h2 => by
    rw [List.flatten_cons]
    refine DRL_append (by have := h2 0 l rfl; simpa using this) (DRL_flat (fun l hl => h1 l (by simp [hl])) fun j l' hj => ?_)
    have := h2 (j + 1) l' (by simpa using hj)
    rw [h1 l (by simp)]
    rwa [show o + n + j * n = o + (j + 1) * n by rw [Nat.add_mul]; omega]
theorem choose_list {α β : Type} {R : α → β → Prop} : ∀ {l : List α}, (∀ a ∈ l, ∃ b, R a b) → ∃ bs : List β, bs.length = l.length ∧ ∀ (j : Nat) (a : α) (b : β), l[j]? = some a → bs[j]? = some b → R a b
  | [], _ => ⟨[], rfl, by simp⟩
  | a :: l, h => by
    obtain ⟨b, hb⟩ := h a (by simp)
    obtain ⟨bs, h1, h2⟩ := choose_list (l := l) fun a ha => h a (by simp [ha])
    refine ⟨b :: bs, by simp [h1], fun j a' b' ha hb' => ?_⟩
    cases j with
    | zero => simp at ha hb'; subst ha; subst hb'; exact hb
    | succ j => exact h2 j a' b' (by simpa using ha) (by simpa using hb')

theorem lit_bool {fuel : Nat} {t : TypeId} {cs : List Value} {d : DataW H} {ps : List MemPlace} (hu : P.underlying t = some .bool) (h : DataW.trod enc P w 0 spare held fuel t cs = some (d, ps)) : ∃ b, cs = [.bool b] := by
  cases fuel with
  | zero => simp [DataW.trod] at h
  | succ fuel =>
    simp only [DataW.trod, hu] at h
    split at h <;> simp_all
theorem lit_int {k : IntKind} {fuel : Nat} {t : TypeId} {cs : List Value} {d : DataW H} {ps : List MemPlace} (hu : P.underlying t = some (.int k)) (h : DataW.trod enc P w 0 spare held fuel t cs = some (d, ps)) : ∃ n, cs = [.int k n] ∧ k.min ≤ n ∧ n ≤ k.max := by
  cases fuel with
  | zero => simp [DataW.trod] at h
  | succ fuel =>
    simp only [DataW.trod, hu] at h
    split at h <;> simp_all
    simpa [Lit.wf] using h.1.2
theorem lit_str {fuel : Nat} {t : TypeId} {cs : List Value} {d : DataW H} {ps : List MemPlace} (hu : P.underlying t = some .string) (h : DataW.trod enc P w 0 spare held fuel t cs = some (d, ps)) : ∃ s : ByteArray, cs = [.string s] ∧ s.size ≤ maxLen := by
  cases fuel with
  | zero => simp [DataW.trod] at h
  | succ fuel =>
    simp only [DataW.trod, hu] at h
    split at h <;> simp_all

mutual
theorem Sh.of_trod : ∀ (s : Sh) {fuel : Nat} {t : TypeId} {cs : List Value} {d : DataW H} {ps : List MemPlace}, s.chk P t = true → DataW.trod enc P w 0 spare held fuel t cs = some (d, ps) →
    ∃ ds, s.has ds ∧ DRs (allImm w) w ds cs
  | .bool, fuel, t, cs, d, ps, hc, h => by
    simp only [Sh.chk] at hc
    split at hc
    · rename_i hu
      obtain ⟨b, rfl⟩ := lit_bool hu h
      exact ⟨[.bool b], ⟨b, rfl⟩, by simp [DRs, DR]⟩
    · cases hc
  | .int k, fuel, t, cs, d, ps, hc, h => by
    simp only [Sh.chk] at hc
    split at hc
    · rename_i k' hu
      simp only [beq_iff_eq] at hc
      subst hc
      obtain ⟨n, rfl, h1, h2⟩ := lit_int hu h
      exact ⟨[.int _ n], ⟨n, rfl, h1, h2⟩, by simp [DRs, DR]⟩
    · cases hc
  | .str, fuel, t, cs, d, ps, hc, h => by
    simp only [Sh.chk] at hc
    split at hc
    · rename_i hu
      obtain ⟨s, rfl, h1⟩ := lit_str hu h
      exact ⟨[.str s], ⟨s, rfl, h1⟩, by simp [DRs, DR]⟩
    · cases hc
  | .slice e, fuel, t, cs, d, ps, hc, h => by
    simp only [Sh.chk] at hc
    split at hc
    · rename_i t' hu
      simp only [Bool.and_eq_true, beq_iff_eq, bne_iff_ne] at hc
      obtain ⟨⟨h1, h2⟩, h3⟩ := hc
      rcases Deep.open_slice hu h with ⟨rfl, _⟩ | ⟨a, len, cap, m, n, D, Pl, rfl, _, hl, hcap, hm, _, hel⟩
      · refine ⟨[.slice 0 []], ⟨0, [], by simp⟩, ?_⟩
        simp [DRs, DR]
      · have hlm : len ≤ m := by rw [hm]; split <;> omega
        rw [h1] at hel
        have hp : ∀ i ∈ List.range len, ∃ ds, e.has ds ∧ (a.spot = none → DRL (allImm w) w a.block (a.off + i * e.size) ds) ∧ (i = 0 → a.spot = none) := by
          intro i hi
          have hi : i < len := by simpa using hi
          obtain ⟨cs', hc1, hc2⟩ := hel i (by omega)
          obtain ⟨ds, hd1, hd2⟩ := Sh.of_trod e h3 hc2
          refine ⟨ds, hd1, fun hs => ?_, fun hi0 => ?_⟩
          · have ha : a.add (i * e.size) = ⟨a.block, a.off + i * e.size, none⟩ := by
              obtain ⟨b, o, s⟩ := a
              simp only at hs; subst hs
              exact add_none b o _
            rw [ha] at hc1
            exact DRL_of_cells (a := ⟨a.block, a.off + i * e.size, none⟩) rfl hc1 hd2
          · subst hi0
            obtain ⟨_, hc3⟩ := cells_of_cells? hc1
            have hc3 := hc3 0 (by omega)
            have hlen := DRs_length hd2
            have hel := Sh.has_len hd1
            cases cs' with
            | nil => simp at hlen; omega
            | cons u us =>
              simp only [Nat.zero_mul, List.getElem?_cons_zero] at hc3
              exact (spot_none hc3).1
        obtain ⟨ls, hls, hR⟩ := choose_list hp
        simp only [List.length_range] at hls
        have hR : ∀ (j : Nat) (l : List Go.Ev.D), ls[j]? = some l → e.has l ∧ (a.spot = none → DRL (allImm w) w a.block (a.off + j * e.size) l) ∧ (j = 0 → a.spot = none) := fun j l hj => by
          have hjl : j < len := by rw [← hls]; exact (List.getElem?_eq_some_iff.1 hj).1
          exact hR j j l (by simp [hjl]) hj
        refine ⟨[.slice len ls.flatten], ⟨len, ls, rfl, hls, by omega, fun l hl => ?_⟩, ?_⟩
        · obtain ⟨j, hj⟩ := List.mem_iff_getElem?.1 hl
          exact (hR j l hj).1
        · refine ⟨_, [], rfl, ?_, rfl⟩
          simp only [DR]
          refine ⟨some a, cap, rfl, hl, ?_⟩
          cases ls with
          | nil => exact .inl rfl
          | cons l0 ls =>
            have hs : a.spot = none := (hR 0 l0 rfl).2.2 rfl
            refine .inr ⟨a.block, a.off, ?_, DRL_flat (n := e.size) (fun l hl => ?_) (fun j l hj => (hR j l hj).2.1 hs)⟩
            · obtain ⟨b, o, s⟩ := a
              simp only at hs; subst hs; rfl
            · obtain ⟨j, hj⟩ := List.mem_iff_getElem?.1 hl
              exact Sh.has_len (hR j l hj).1
    · cases hc
  | .struct fs, fuel, t, cs, d, ps, hc, h => by
    simp only [Sh.chk] at hc
    split at hc
    · rename_i l hu
      simp only [Bool.and_eq_true, beq_iff_eq] at hc
      obtain ⟨xs, n, _, _, hl, hlen, hf⟩ := DataW.trod_struct hu h
      simp only [Sh.has]
      refine Sh.of_trods fs (n := n) (o := 0) hc.2 (fun i f hi => ?_) (by rw [hl, hc.1]; omega) |>.imp fun ds hd => by simpa using hd
      have hi2 : i < xs.length := by rw [hlen]; simpa using (List.getElem?_eq_some_iff.1 hi).1
      have := hf i f (by simpa using hi)
      exact ⟨xs[i], by rw [this, List.getElem?_eq_getElem hi2]⟩
    · cases hc
theorem Sh.of_trods : ∀ (ss : List Sh) {n o : Nat} {fs : List Field} {cs : List Value}, Sh.chkAll P ss o fs = true →
    (∀ (i : Nat) (f : Field), fs[i]? = some f → ∃ x, DataW.trod enc P w 0 spare held n f.type ((cs.drop f.offset).take (P.cellsOf f.type)) = some x) → o + Sh.sizes ss = cs.length →
    ∃ ds, Sh.hasAll ss ds ∧ DRs (allImm w) w ds (cs.drop o)
  | [], n, o, [], cs, _, _, hl => ⟨[], rfl, by simp only [DRs]; simp only [Sh.sizes] at hl; exact List.drop_eq_nil_of_le (by omega)⟩
  | s :: ss, n, o, f :: fs, cs, hc, hf, hl => by
    simp only [Sh.chkAll, Bool.and_eq_true, beq_iff_eq] at hc
    obtain ⟨⟨⟨h1, h2⟩, h3⟩, h4⟩ := hc
    obtain ⟨⟨d, ps⟩, hx⟩ := hf 0 f rfl
    obtain ⟨ds, hd1, hd2⟩ := Sh.of_trod s h3 hx
    simp only [Sh.sizes] at hl
    obtain ⟨es, he1, he2⟩ := Sh.of_trods ss (n := n) h4 (fun i f hi => hf (i + 1) f (by simpa using hi)) (by omega)
    refine ⟨ds ++ es, ⟨ds, es, rfl, hd1, he1⟩, ?_⟩
    rw [h1, h2] at hd2
    have e : cs.drop o = (cs.drop o).take s.size ++ cs.drop (o + s.size) := by
      rw [← List.drop_drop, List.take_append_drop]
    rw [e]
    exact DRs_append hd2 he2
  | [], n, o, _ :: _, cs, hc, _, _ => by simp [Sh.chkAll] at hc
  | _ :: _, n, o, [], cs, hc, _, _ => by simp [Sh.chkAll] at hc
end
end
end Go.Ev
