/-
  Rows of rows that are being built, the last of which grows: what is told of them, kept, and turned into the print's own word for rows of rows. No condition but those that stand in each theorem.
-/
import Derived.Test.YtfibkajflenekaaDoorSplit
import Derived.Test.YtfibkajflenekaaDoorWRepsOne
namespace Go.Proofs.YtfibkajflenekaaDoor.G
set_option linter.unusedVariables false
set_option linter.unusedSimpArgs false
open Go.RowKit Go.Proofs.YtfibkajflenekaaDoorW.PrintWords Go.Proofs.YtfibkajflenekaaDoorW.PrintLast

section
variable {α : Type} (d : Kd α) (e E : Nat)
/-- The rows but the last lie below N, the last from N on; the whole's own block is none of them. -/
structure Tail (w : World) (base : Nat) (v : Value) (ini : List (List α)) (x : List α) (vs : List Value) (u : Value) (N : Nat) : Prop where
  own : w.ownsRow base E 1 v (ini.length + 1) (vs ++ [u])
  rep : Reps ((Kd.slice e d).M w base (fun k => k < N ∧ some k ≠ v.ownBlock)) 1 ini vs
  last : d.R e w base (fun k => N ≤ k ∧ some k ≠ v.ownBlock) u x
  le : N ≤ w.heap.size
/-- Rows of rows under way. -/
def BI (w : World) (base : Nat) (v : Value) (xs : List (List α)) : Prop :=
  (xs = [] ∧ w.ownsRow base E 1 v 0 []) ∨ ∃ ini x vs u N, xs = ini ++ [x] ∧ Tail d e E w base v ini x vs u N
end
section
variable {α : Type} {d : Kd α} {e E : Nat} {w w1 : World} {base : Nat} {v u : Value} {xs ini : List (List α)} {x : List α} {vs : List Value} {N : Nat}
theorem Tail.below (h : Tail d e E w base v ini x vs u N) (hb : Below w.heap.size w w1) : Tail d e E w1 base v ini x vs u N :=
  ⟨pw_own_below h.own hb, h.rep.imp_ (fun _ _ hp => Kd.M_below (d := Kd.slice e d) hp hb), Kd.R_below h.last hb, Nat.le_trans h.le hb.size⟩
theorem BI.below (h : BI d e E w base v xs) (hb : Below w.heap.size w w1) : BI d e E w1 base v xs := by
  rcases h with ⟨h1, h2⟩ | ⟨ini, x, vs, u, N, h1, h2⟩
  · exact .inl ⟨h1, pw_own_below h2 hb⟩
  · exact .inr ⟨ini, x, vs, u, N, h1, h2.below hb⟩
theorem own_inner_eq {w : World} {b1 b2 : Nat} {e1 : TypeId} {s n : Nat} {v : Value} {i1 i2 : List Value} (h1 : w.ownsRow b1 e1 s v n i1) (h2 : w.ownsRow b2 e1 s v n i2) : i1 = i2 := by
  obtain ⟨l1, h1⟩ := h1
  obtain ⟨l2, h2⟩ := h2
  rcases h1 with ⟨rfl, rfl⟩ | ⟨g, cap, cur, rfl, _, hh, _, _, _, ht⟩
  · have e1 : i1 = [] := List.eq_nil_of_length_eq_zero (by simpa using l1)
    have e2 : i2 = [] := List.eq_nil_of_length_eq_zero (by simpa using l2)
    rw [e1, e2]
  · rcases h2 with ⟨h2, _⟩ | ⟨g', cap', cur', h2, _, hh', _, _, _, ht'⟩
    · cases h2
    · injection h2 with h2 _ h3
      injection h2 with h2
      injection h2 with h2
      subst h2
      rw [hh] at hh'
      injection hh' with hh'
      injection hh' with hh'
      subst hh'
      rw [← ht, ← ht']
theorem BI.own (h : BI d e E w base v xs) : ∃ inner, w.ownsRow base E 1 v xs.length inner := by
  rcases h with ⟨rfl, h2⟩ | ⟨ini, x, vs, u, N, rfl, h2⟩
  · exact ⟨[], h2⟩
  · exact ⟨_, by have := h2.own; simpa using this⟩
theorem BI.form (h : BI d e E w base v xs) : ∃ A c, v = .slice A xs.length c := by
  obtain ⟨inner, ho⟩ := h.own
  exact own_slice ho
/-- Done: the print's own word. -/
theorem BI.R (h : BI d e E w base v xs) : (Kd.slice e d).R E w base (fun _ => True) v xs := by
  rcases h with ⟨rfl, h2⟩ | ⟨ini, x, vs, u, N, rfl, h2⟩
  · exact ⟨fun _ _ => trivial, [], h2, Reps.none _ _⟩
  · refine ⟨fun _ _ => trivial, vs ++ [u], by have := h2.own; show w.ownsRow base E 1 v (ini ++ [x]).length (vs ++ [u]); simpa using this, ?_⟩
    refine Reps.snoc (h2.rep.imp_ (fun _ _ hp => (Kd.slice e d).M_mono (fun k hk => ⟨trivial, hk.2⟩) hp)) ⟨u, rfl, Kd.R_mono h2.last (fun k hk => ⟨trivial, hk.2⟩)⟩ rfl
/-- One more row, empty so far: behind the append. u0 lies in a block that is new since W. -/
theorem BI.push {W : World} {v1 u0 : Value} {inner : List Value} (h : BI d e E W base v xs) (hi : W.ownsRow base E 1 v xs.length inner) {W1 : World} (hW : Below W.heap.size W W1)
    (hu : d.R e W1 base (fun k => W.heap.size ≤ k) u0 []) (ho : w1.ownsRow base E 1 v1 (xs.length + 1) (inner ++ [u0])) (hg : W1.grownBy w1 v.ownBlock) (hat : v1.ownBlock = v.ownBlock ∨ ∃ b, v1.ownBlock = some b ∧ W1.heap.size ≤ b) :
    BI d e E w1 base v1 (xs ++ [[]]) := by
  have hvW : ∀ k, v.ownBlock = some k → k < W.heap.size := fun k hk => own_lt hi k hk
  have hsz := hW.size
  have ne1 : ∀ k, k < W1.heap.size → some k ≠ v.ownBlock → some k ≠ v1.ownBlock := by
    intro k hk hne
    rcases hat with ha | ⟨b, hb, hle⟩
    · rw [ha]; exact hne
    · rw [hb]; intro he; injection he with he; omega
  have hlast : d.R e w1 base (fun k => W.heap.size ≤ k ∧ some k ≠ v1.ownBlock) u0 [] := by
    have h1 := Kd.R_grown (Kd.R_bound hu) hg (fun k hk he => by have := hvW k he.symm; omega)
    exact Kd.R_mono h1 (fun k hk => ⟨hk.1, ne1 k hk.2.2.1 (fun he => by have := hvW k he.symm; omega)⟩)
  refine .inr ⟨xs, [], inner, u0, W.heap.size, rfl, ho, ?_, hlast, Nat.le_trans hsz hg.size⟩
  have move : ∀ {y : List α} {c : List Value} {ok : Nat → Prop}, (Kd.slice e d).M W base ok y c → (∀ k, ok k → some k ≠ v.ownBlock) → (Kd.slice e d).M w1 base (fun k => k < W.heap.size ∧ some k ≠ v1.ownBlock) y c := by
    intro y c ok hy hok
    have h1 := Kd.M_grown (d := Kd.slice e d) (Kd.M_below (d := Kd.slice e d) ((Kd.slice e d).M_bound hy) hW) hg (fun k hk => hok k hk.1)
    exact (Kd.slice e d).M_mono (fun k hk => ⟨hk.2.2.1, ne1 k (by have := hk.2.2.1; omega) (hok k hk.1)⟩) h1
  rcases h with ⟨rfl, h2⟩ | ⟨ini, x, vs, u, N, rfl, h2⟩
  · have : inner = [] := by have := hi.1; simpa using this
    subst this
    exact Reps.none _ _
  · have hin : inner = vs ++ [u] := by
      have h1 := h2.own
      rw [show ini.length + 1 = (ini ++ [x]).length by simp] at h1
      exact own_inner_eq hi h1
    subst hin
    exact (h2.rep.imp_ (fun _ _ hp => move hp (fun k hk => hk.2))).snoc (move (ok := fun k => N ≤ k ∧ some k ≠ v.ownBlock) ⟨u, rfl, h2.last⟩ (fun k hk => hk.2)) rfl
/-- The last row lies in the whole's last cell, and may be written there. -/
theorem Tail.form (h : Tail d e E w base v ini x vs u N) : ∃ g c, v = .slice (some ⟨g, 0, none⟩) (ini.length + 1) c ∧ w.cell? ⟨g, ini.length, none⟩ = some u ∧ w.frozen? ⟨g, ini.length, none⟩ = false ∧ base ≤ g ∧ (∃ cells, w.heap[g]? = some (.cells cells E (0, 0))) ∧ ini.length + 1 ≤ c := by
  have ho := h.own
  have hlv : vs.length = ini.length := by have := ho.1; simp at this; exact this
  rcases ho.2 with ⟨_, h0⟩ | ⟨g, c, cur, rfl, hb, hh, hc, _⟩
  · cases h0
  · refine ⟨g, c, rfl, ?_, ho.frozenAt _, hb, ⟨cur, hh⟩, hc⟩
    rw [ho.cellAt ini.length (by omega), ← hlv]
    simp
/-- One more element at the end of the last row: behind the append (u1 is its slice in w1), and the store of u1. -/
theorem Tail.app {p : α} {u1 : Value} {g c : Nat} (h : Tail d e E w base v ini x vs u N) (hv : v = .slice (some ⟨g, 0, none⟩) (ini.length + 1) c) (hne : e ≠ E) (hE : E ∉ d.E)
    (hu : d.R e w1 base (fun k => N ≤ k ∧ some k ≠ v.ownBlock) u1 (x ++ [p])) (hg : w.grownBy w1 u.ownBlock) :
    Tail d e E (w1.setCell ⟨g, ini.length, none⟩ u1) base v ini (x ++ [p]) vs u1 N := by
  have hvo : v.ownBlock = some g := by rw [hv]; rfl
  have ho := h.own
  obtain ⟨cur, hcur⟩ := own_typed ho g hvo
  have hug : some g ≠ u.ownBlock := fun he => by
    obtain ⟨_, hx⟩ := own_typed h.last.2.choose_spec.1 g he.symm
    rw [hcur] at hx
    injection hx with hx
    injection hx with _ hx
    exact hne hx.symm
  have ho1 : w1.ownsRow base E 1 v (ini.length + 1) (vs ++ [u]) := own_other ho hg (.inr (by rw [hvo]; exact hug))
  have hlv : vs.length = ini.length := by have := ho.1; simp at this; exact this
  have ho2 := (World.ownsRow.stored (hv ▸ ho1) ini.length u1).1
  rw [← hv, show (vs ++ [u]).set ini.length u1 = vs ++ [u1] by rw [← hlv]; simp] at ho2
  have hlast : d.R e (w1.setCell ⟨g, ini.length, none⟩ u1) base (fun k => N ≤ k ∧ some k ≠ v.ownBlock) u1 (x ++ [p]) :=
    Kd.R_far hu (fun k hk he => hk.2 (by rw [hvo]; exact congrArg some he)) u1
  refine ⟨ho2, h.rep.imp_ (fun y cs hp => ?_), hlast, Nat.le_trans h.le (Nat.le_trans hg.size (by simp))⟩
  have h1 := Kd.M_grown (d := Kd.slice e d) hp hg (fun k hk he => by
    have := h.last.1 k he.symm
    have := hk.1
    omega)
  exact Kd.M_far (d := Kd.slice e d) h1 (fun k hk he => hk.2 (by rw [hvo]; exact congrArg some he)) u1
end
end Go.Proofs.YtfibkajflenekaaDoor.G
