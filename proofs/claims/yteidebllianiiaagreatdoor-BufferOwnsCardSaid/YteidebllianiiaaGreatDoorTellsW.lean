/- BufferTells, walked. Condition: none but what every input has. -/
import Derived.Test.YteidebllianiiaaGreatDoorSealsW
import Derived.Test.YteidebllianiiaaGreatDoorTellsP
set_option linter.unusedVariables false
set_option linter.unusedSimpArgs false
namespace Go.Proofs.YteidebllianiiaaGreatDoor
open Go.RowKit Go.Proofs.YteidebllianiiaaGreatDoor.PAll Go.Proofs.YteidebllianiiaaGreatDoorW.PrintWords Go.Proofs.YteidebllianiiaaGreatDoorW.PrintLast Go.Proofs.YteidebllianiiaaGreatDoorW.PrintMore

def cnt (L : List Ent) (x : ByteArray) : Nat := ((posts L x).map (fun p => p.f1.length)).sum

theorem key_small {L : List Ent} (h : ∀ e ∈ L, Fit9 e) {s : ByteArray} (hs : posts L s ≠ []) : s.size ≤ 1000000000 := by
  obtain ⟨p, hp⟩ := List.exists_mem_of_ne_nil _ hs
  unfold posts at hp
  obtain ⟨x, hx, hp⟩ := List.mem_flatMap.1 hp
  obtain ⟨hi, ex⟩ := zip_mem hx
  unfold docPosts at hp
  obtain ⟨t, ht, rfl⟩ := List.mem_map.1 hp
  have hc := ((fit_clean (h x.1 (ex ▸ List.getElem_mem hi))).1 t (List.mem_filter.1 ht).1).1
  have e1 : keyS t = s := by simpa using (List.mem_filter.1 ht).2
  rw [← e1]
  have h1 := congrArg List.length (keyS_data t)
  unfold keyB at h1
  simp only [List.length_append, List.length_cons, List.length_nil, Array.length_toList] at h1
  have := hc.1
  have := hc.2
  have e2 : ∀ q : ByteArray, q.data.size = q.size := fun _ => rfl
  rw [e2, e2, e2] at h1
  omega

end Go.Proofs.YteidebllianiiaaGreatDoor
