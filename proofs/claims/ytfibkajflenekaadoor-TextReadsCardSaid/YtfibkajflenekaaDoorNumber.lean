/-
  text.number: a word's number, or that it is none, by a walk over its text. Conditions: the package variables hold what they hold (GW); the word is shorter than 4294967281 bytes.
-/
import Derived.Test.YtfibkajflenekaaDoorSplit
import Derived.Tactics
import Derived.WideLaws
namespace Go.Proofs.YtfibkajflenekaaDoor.G
set_option linter.unusedVariables false
set_option linter.unusedSimpArgs false
open Go.RowKit Go.Proofs.YtfibkajflenekaaDoorW.PrintWords Go.Proofs.YtfibkajflenekaaDoorW.PrintLast

theorem num_fact {t : ByteArray} {v : Int} (h : num t = some v) : Lib.atoiAll t.data.toList = .ok v ∧ 0 ≤ v ∧ v < 2147483648 ∧ Lib.itoa v = t.data.toList := by
  unfold num at h
  split at h
  · rename_i u hu
    split at h
    · rename_i hc
      obtain rfl := Option.some.inj h
      exact ⟨hu, hc⟩
    · cases h
  · cases h
set_option maxHeartbeats 1600000 in
theorem number_ok (t : ByteArray) (v : Int) (w : World) (hG : GW w) (ht : t.size < 4294967281) (h : num t = some v) :
    Calls Tryd.prog 72 #[.string t] w fun e w' => e = .returned (.tuple #[.int .i64 v, .bool true]) ∧ Below w.heap.size w w' := by
  obtain ⟨h0, h1, h2, h3⟩ := num_fact h
  have h1b : decide (0 ≤ v) = true := decide_eq_true h1
  have h2b : decide (v < 2147483648) = true := decide_eq_true h2
  have HA := Lib.hid (fun W => atoi_ok t v W ht h0)
  have HG := Lib.hid hG
  have hq : ((⟨(Lib.itoa v).toArray⟩ : ByteArray)) = t := by rw [h3]
  have HI := Lib.hid (fun W hGW => strconv_Itoa.calls v t W hGW (by unfold strconv_Itoa.f; rw [if_pos ⟨by omega, by omega⟩, hq]))
  clear h h0 h1 h2 h3 hG hq
  go_enter Tryd.func72, Tryd.ntmps72
  go_wp2_with fail
  refine (HA.out _).mono ?_
  rintro e w2 ⟨rfl, hb2⟩
  go_wp2_with fail
  refine (HI.out _ (GW_below HG.out hb2)).mono ?_
  rintro e w3 ⟨rfl, hb3⟩
  go_wp2
  go_ret2
  exact ⟨rfl, below_step hb2 hb3⟩
set_option maxHeartbeats 1600000 in
theorem number_no (t : ByteArray) (w : World) (hG : GW w) (ht : t.size < 4294967281) (h : num t = none) :
    Calls Tryd.prog 72 #[.string t] w fun e w' => ∃ v : Int, e = .returned (.tuple #[.int .i64 v, .bool false]) ∧ Below w.heap.size w w' := by
  have HG := Lib.hid hG
  by_cases hno : ∃ v, Lib.atoiAll t.data.toList = .ok v
  · obtain ⟨v, hv⟩ := hno
    have HA := Lib.hid (fun W => atoi_ok t v W ht hv)
    have Hn : Hid (¬ (0 ≤ v ∧ v < 2147483648 ∧ Lib.itoa v = t.data.toList)) := Lib.hid (fun hc => by
      unfold num at h
      rw [hv] at h
      simp only at h
      rw [if_pos hc] at h
      cases h)
    clear h hG hv
    by_cases h0 : 0 ≤ v
    · have h0b : decide (0 ≤ v) = true := decide_eq_true h0
      by_cases h1 : v < 2147483648
      · have h1b : decide (v < 2147483648) = true := decide_eq_true h1
        obtain ⟨q, hq⟩ : ∃ q : ByteArray, ⟨(Lib.itoa v).toArray⟩ = q := ⟨_, rfl⟩
        have HI := Lib.hid (fun W hGW => strconv_Itoa.calls v q W hGW (by unfold strconv_Itoa.f; rw [if_pos ⟨by omega, by omega⟩, hq]))
        have hqt : ¬ q.toList = t.toList := fun he => Hn.out ⟨h0, h1, by rw [← toList_inj he, ← hq]⟩
        have hqb : (q.toList == t.toList) = false := by simpa using hqt
        clear hq h0 h1
        go_enter Tryd.func72, Tryd.ntmps72
        go_wp2_with fail
        refine (HA.out _).mono ?_
        rintro e w2 ⟨rfl, hb2⟩
        go_wp2_with fail
        refine (HI.out _ (GW_below HG.out hb2)).mono ?_
        rintro e w3 ⟨rfl, hb3⟩
        go_wp2
        go_ret2
        exact ⟨v, rfl, below_step hb2 hb3⟩
      · have h1b : decide (v < 2147483648) = false := decide_eq_false h1
        clear h0 h1
        go_enter Tryd.func72, Tryd.ntmps72
        go_wp2_with fail
        refine (HA.out _).mono ?_
        rintro e w2 ⟨rfl, hb2⟩
        go_wp2
        go_ret2
        exact ⟨v, rfl, hb2⟩
    · have h0b : decide (0 ≤ v) = false := decide_eq_false h0
      clear h0
      go_enter Tryd.func72, Tryd.ntmps72
      go_wp2_with fail
      refine (HA.out _).mono ?_
      rintro e w2 ⟨rfl, hb2⟩
      go_wp2
      go_ret2
      exact ⟨v, rfl, hb2⟩
  · have HA := Lib.hid (fun W hGW => atoi_no t W hGW ht (fun v hv => hno ⟨v, hv⟩))
    clear h hno hG
    go_enter Tryd.func72, Tryd.ntmps72
    go_wp2_with fail
    refine (HA.out _ HG.out).mono ?_
    rintro e w2 ⟨v, u, rfl, hb2⟩
    go_wp2
    go_ret2
    exact ⟨v, rfl, hb2⟩
end Go.Proofs.YtfibkajflenekaaDoor.G
