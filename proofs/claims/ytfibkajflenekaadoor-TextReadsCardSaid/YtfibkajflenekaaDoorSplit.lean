/-
  What a call keeps that writes into few blocks; a word that is a number; the words of a line; strings.Split and strconv.Atoi in that form. Conditions: the package variables hold what they hold (GW); texts shorter than 4294967281 bytes.
-/
import Derived.Test.YtfibkajflenekaaDoorBase
import Derived.Lib.AtoiErrMem
namespace Go.Proofs.YtfibkajflenekaaDoor.G
set_option linter.unusedVariables false
set_option linter.unusedSimpArgs false
open Go.RowKit Go.Proofs.YtfibkajflenekaaDoorW.PrintWords Go.Proofs.YtfibkajflenekaaDoorW.PrintLast

/-- What a call keeps that writes into the blocks of S. -/
structure Keeps (w w' : World) (S : Nat → Prop) : Prop where
  os : w'.os = w.os
  tape : w'.tape = w.tape
  output : w'.output = w.output
  size : w.heap.size ≤ w'.heap.size
  block : ∀ k, k < w.heap.size → ¬ S k → w'.heap[k]? = w.heap[k]?
theorem Keeps.of_below {w w' : World} {S : Nat → Prop} (h : Below w.heap.size w w') : Keeps w w' S := ⟨h.os, h.tape, h.output, h.size, fun k hk _ => h.block k hk⟩
theorem Keeps.refl (w : World) (S : Nat → Prop) : Keeps w w S := .of_below (Below.refl _ _)
theorem Keeps.trans {w w1 w2 : World} {S : Nat → Prop} (h : Keeps w w1 S) (k : Keeps w1 w2 S) : Keeps w w2 S :=
  ⟨k.os.trans h.os, k.tape.trans h.tape, k.output.trans h.output, Nat.le_trans h.size k.size, fun i hi hn => (k.block i (Nat.lt_of_lt_of_le hi h.size) hn).trans (h.block i hi hn)⟩
theorem Keeps.then_below {w w1 w2 : World} {S : Nat → Prop} (h : Keeps w w1 S) (k : Below w1.heap.size w1 w2) : Keeps w w2 S := h.trans (.of_below k)
theorem Keeps.setCell {w w1 : World} {S : Nat → Prop} (h : Keeps w w1 S) {p : Addr} (hp : S p.block) (u : Value) : Keeps w (w1.setCell p u) S :=
  h.trans ⟨rfl, rfl, rfl, by simp [World.setCell], fun i _ hn => Below.heap_setCell _ _ _ _ (fun e => hn (e ▸ hp))⟩
theorem Keeps.below {w w1 : World} {S : Nat → Prop} {B : Nat} (h : Keeps w w1 S) (hS : ∀ k, S k → B ≤ k) (hB : B ≤ w.heap.size) : Below B w w1 :=
  ⟨h.os, h.tape, h.output, h.size, fun k hk => h.block k (by omega) (fun hs => by have := hS k hs; omega)⟩
theorem Keeps.cell {w w1 : World} {S : Nat → Prop} (h : Keeps w w1 S) {a : Addr} {v : Value} (hc : w.cell? a = some v) (hn : ¬ S a.block) : w1.cell? a = some v := by
  have := h.block a.block (World.block_lt_of_cell? w a hc) hn
  simpa [World.cell?, this] using hc

/-! ### a word that is a number -/
def num (t : ByteArray) : Option Int :=
  match Lib.atoiAll t.data.toList with
  | .ok v => if 0 ≤ v ∧ v < 2147483648 ∧ Lib.itoa v = t.data.toList then some v else none
  | _ => none
def nums : List ByteArray → Option (List Int)
  | [] => some []
  | t :: l => (num t).bind fun n => (nums l).bind fun r => some (n :: r)
def words (s : ByteArray) : List ByteArray := Lib.splitB ⟨#[32]⟩ 0 (Lib.countB s ⟨#[32]⟩) s
theorem words_length (s : ByteArray) : (words s).length = Lib.countB s ⟨#[32]⟩ + 1 := Lib.splitB_all ⟨#[32]⟩ (by decide) 0 _ s rfl
theorem words_le (s : ByteArray) : (words s).length ≤ s.size + 1 := by
  have := words_length s
  have := Lib.countB_le ⟨#[32]⟩ (by decide) s.size s (Nat.le_refl _)
  omega

theorem split_any (s : ByteArray) (w : World) (hG : GW w) (hs : s.size < 4294967281) :
    Calls Tryd.prog 40 #[.string s, .string ⟨#[32]⟩] w fun e w' => e = .returned (.slice (some ⟨w.heap.size, 0, none⟩) (words s).length (words s).length) ∧
      (∀ i t, (words s)[i]? = some t → w'.cell? ⟨w.heap.size, i, none⟩ = some (.string t)) ∧ Below w.heap.size w w' ∧ w.heap.size < w'.heap.size := by
  obtain ⟨m, hm⟩ := hG.mlen
  refine (Tryd.strings_Split s ⟨#[32]⟩ m w hs hm (by decide)).mono ?_
  rintro e w' ⟨rfl, rfl⟩
  have ho := own_lit_of (enc := Value.string) w w.heap.size 9 (words s) (Nat.le_refl _) (by have := words_le s; omega)
  refine ⟨by rw [words_length], fun i t hi => ?_, below_alloc (Below.refl _ _) _, by simp⟩
  have hc := ho.cells (g := w.heap.size) rfl i (.string t) (by simp [encs, hi])
  rw [add_plain] at hc
  exact hc

theorem atoi_ok (t : ByteArray) (v : Int) (w : World) (ht : t.size < 4294967281) (h : Lib.atoiAll t.data.toList = .ok v) :
    Calls Tryd.prog 41 #[.string t] w fun e w' => e = .returned (.tuple #[.int .i64 v, .nilIface]) ∧ Below w.heap.size w w' :=
  (Tryd.strconv_Atoi_ok t (by omega) v h w).mono fun e w' ⟨h1, h2⟩ => ⟨h1, by
    rcases h2 with rfl | ⟨q, rfl⟩
    · exact Below.refl _ _
    · exact Lib.bytesWorld_below _ _ _⟩
theorem atoi_no (t : ByteArray) (w : World) (hG : GW w) (ht : t.size < 4294967281) (h : ∀ v, Lib.atoiAll t.data.toList ≠ .ok v) :
    Calls Tryd.prog 41 #[.string t] w fun e w' => ∃ (v : Int) (u : Value), e = .returned (.tuple #[.int .i64 v, .iface 131 u]) ∧ Below w.heap.size w w' := by
  rcases hx : Lib.atoiAll t.data.toList with v | _ | _
  · exact absurd hx (h v)
  · obtain ⟨tp, p, hv⟩ := hG.syn
    refine (Any.strconv_Atoi_syntax_var Tryd.laysC172 t (by omega) hx tp p w hv).mono ?_
    rintro e w' ⟨N, rfl, _, _, hb⟩
    exact ⟨_, _, rfl, hb⟩
  · obtain ⟨tp, p, hv⟩ := hG.rng
    refine (Tryd.strconv_Atoi_range_var t (by omega) hx tp p w hv).mono ?_
    rintro e w' ⟨N, rfl, _, _, hb⟩
    exact ⟨_, _, rfl, hb⟩

theorem words_some (s : ByteArray) (i : Nat) (h : i < (words s).length) : ∃ t, (words s)[i]? = some t := ⟨_, List.getElem?_eq_getElem h⟩
theorem splitB_size (sep : ByteArray) : ∀ (k : Nat) (s t : ByteArray), t ∈ Lib.splitB sep 0 k s → t.size ≤ s.size
  | 0, s, t, h => by simp [Lib.splitB] at h; subst h; exact Nat.le_refl _
  | k + 1, s, t, h => by
    simp only [Lib.splitB] at h
    split at h
    · simp at h; subst h; exact Nat.le_refl _
    · rcases List.mem_cons.1 h with rfl | h
      · simp only [ByteArray.size_extract]; omega
      · have := splitB_size sep k _ t h
        simp only [ByteArray.size_extract] at this; omega
theorem words_size (s t : ByteArray) (i : Nat) (h : (words s)[i]? = some t) : t.size ≤ s.size := splitB_size _ _ _ _ (List.mem_of_getElem? h)
theorem toList_inj {a b : ByteArray} (h : a.toList = b.toList) : a = b := by
  rw [ByteArray.toList_eq, ByteArray.toList_eq] at h
  exact WideShapes.bytes_inj h
theorem nums_drop {l : List ByteArray} {k : Nat} {t : ByteArray} (h : l[k]? = some t) : nums (l.drop k) = (num t).bind fun n => (nums (l.drop (k + 1))).bind fun r => some (n :: r) := by
  obtain ⟨hk, rfl⟩ := List.getElem?_eq_some_iff.1 h
  rw [List.drop_eq_getElem_cons hk]
  rfl
end Go.Proofs.YtfibkajflenekaaDoor.G
