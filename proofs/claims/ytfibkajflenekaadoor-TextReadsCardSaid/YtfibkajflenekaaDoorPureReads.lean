/-
  The plain law of TextReads: of every text of at most 4096 bytes the program's parse is the document's. No program in sight: the printed functions alone.
-/
import Derived.Test.YtfibkajflenekaaDoorPureText
import Derived.Test.YtfibkajflenekaaDoorPTxx13
namespace Go.Proofs.YtfibkajflenekaaDoor.G
set_option linter.unusedVariables false
set_option linter.unusedSimpArgs false
open Go.RowKit Go.Proofs.YtfibkajflenekaaDoorW.PrintWords Go.Proofs.YtfibkajflenekaaDoorW.PrintLast Go.Proofs.YtfibkajflenekaaDoor.PTx

theorem pTextReads : cubbylaw08_TextReads.Pure := by
  intro a0 _
  refine Ev.rounds ?_
  by_cases hs : (a0.size : Int) > 4096
  · exact Ev.congr (f := fun _ => some true) (fun k => by unfold cubbylaw08_TextReads.f; rw [if_pos hs]) (Ev.now _)
  · have hs' : a0.size ≤ 4096 := by omega
    obtain ⟨r, hr⟩ : ∃ r, parseAns true ⟨#[99, 111, 100, 101]⟩ 3 a0 = r := ⟨_, rfl⟩
    have hR := ref_parse true ⟨#[99, 111, 100, 101]⟩ 3 (by decide) a0 hs'
    have hhead : r.2.1 = 0 → r.2.2.head.length = 3 := fun h0 => by rw [← hr] at h0 ⊢; exact parseAns_head h0
    have hbnd : r.2.1 = 0 → Bnd 4096 r.2.2.blocks := fun h0 => by rw [← hr] at h0 ⊢; exact parseAns_bnd hs' h0
    rw [hr] at hR
    by_cases h0 : r.2.1 = 0
    · have hl := hhead h0
      have hP : text_ParseCode.f a0 = some (r.2.2.name, rd r.2.2.head 0, rd r.2.2.head 1, rd r.2.2.head 2, r.2.2.blocks, 0, 0) := by unfold text_ParseCode.f; rw [if_pos (by omega), hr]; simp only [if_pos h0]
      have hA : ansR r = (r.2.2.name, r.2.2.head, r.2.2.blocks, 0, 0) := by unfold ansR; rw [if_pos h0]
      rw [hA] at hR
      have hQ : Ev (fun k => cubbyref08_ParseCode.f k a0) (r.2.2.name, rd r.2.2.head 0, rd r.2.2.head 1, rd r.2.2.head 2, r.2.2.blocks, 0, 0) := by
        unfold cubbyref08_ParseCode.f
        refine Ev.bind hR ?_
        exact Ev.congr (f := fun _ => some (r.2.2.name, rd r.2.2.head 0, rd r.2.2.head 1, rd r.2.2.head 2, r.2.2.blocks, 0, 0)) (fun k => by simp only [if_true]; rw [if_pos (by omega), if_pos (by omega), if_pos (by omega)]) (Ev.now _)
      have hS : Ev (fun k => cubbylaw08_sameCode.f k r.2.2.name (rd r.2.2.head 0) (rd r.2.2.head 1) (rd r.2.2.head 2) r.2.2.blocks r.2.2.name (rd r.2.2.head 0) (rd r.2.2.head 1) (rd r.2.2.head 2) r.2.2.blocks) true := by
        unfold cubbylaw08_sameCode.f
        refine Ev.congr (f := fun k => (cubbyref07_Blocks.f k r.2.2.blocks r.2.2.blocks).bind fun t => some t) (fun k => by simp only [if_true]) (Ev.bind (blocks_ev _ (hbnd h0)) (Ev.now _))
      refine Ev.congr (f := fun k => (cubbyref08_ParseCode.f k a0).bind fun q => if (0 : Int) = q.2.2.2.2.2.1 then (if (0 : Int) = q.2.2.2.2.2.2 then (cubbylaw08_sameCode.f k r.2.2.name (rd r.2.2.head 0) (rd r.2.2.head 1) (rd r.2.2.head 2) r.2.2.blocks q.1 q.2.1 q.2.2.1 q.2.2.2.1 q.2.2.2.2.1).bind fun t => some t else some false) else some false) (fun k => by unfold cubbylaw08_TextReads.f; rw [if_neg hs, hP, Option.bind_some]) (Ev.bind hQ ?_)
      simp only [if_true]
      exact Ev.bind hS (Ev.now _)
    · have hP : text_ParseCode.f a0 = some (⟨#[]⟩, 0, 0, 0, [], r.1, r.2.1) := by unfold text_ParseCode.f; rw [if_pos (by omega), hr]; simp only [if_neg h0]
      have hA : ansR r = (⟨#[]⟩, [], [], r.1, r.2.1) := by unfold ansR; rw [if_neg h0]
      rw [hA] at hR
      have hQ : Ev (fun k => cubbyref08_ParseCode.f k a0) (⟨#[]⟩, 0, 0, 0, [], r.1, r.2.1) := by
        unfold cubbyref08_ParseCode.f
        refine Ev.bind hR ?_
        exact Ev.congr (f := fun _ => some (⟨#[]⟩, 0, 0, 0, [], r.1, r.2.1)) (fun k => by simp only [if_neg h0]) (Ev.now _)
      have hS : Ev (fun k => cubbylaw08_sameCode.f k ⟨#[]⟩ 0 0 0 [] ⟨#[]⟩ 0 0 0 []) true := by
        unfold cubbylaw08_sameCode.f
        refine Ev.congr (f := fun k => (cubbyref07_Blocks.f k [] []).bind fun t => some t) (fun k => by simp only [if_true]) (Ev.bind (blocks_ev _ (Bnd.nil _)) (Ev.now _))
      refine Ev.congr (f := fun k => (cubbyref08_ParseCode.f k a0).bind fun q => if r.1 = q.2.2.2.2.2.1 then (if r.2.1 = q.2.2.2.2.2.2 then (cubbylaw08_sameCode.f k ⟨#[]⟩ 0 0 0 [] q.1 q.2.1 q.2.2.1 q.2.2.2.1 q.2.2.2.2.1).bind fun t => some t else some false) else some false) (fun k => by unfold cubbylaw08_TextReads.f; rw [if_neg hs, hP, Option.bind_some]) (Ev.bind hQ ?_)
      simp only [if_true]
      exact Ev.bind hS (Ev.now _)
end Go.Proofs.YtfibkajflenekaaDoor.G
