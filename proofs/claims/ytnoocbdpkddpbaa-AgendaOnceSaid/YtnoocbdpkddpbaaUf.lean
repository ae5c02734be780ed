/- Plain laws of agendas: lists that are put one entry after the other. -/
import Derived.Test.YtnoocbdpkddpbaaUe
set_option linter.unusedSimpArgs false
set_option linter.unusedVariables false
namespace Go.Proofs.Ytnoocbdpkddpbaa.Pure
open Go.WG Go.Proofs.Ytnoocbdpkddpbaa
/-- What a Put makes of the list. -/
def stepL (L : List TEntry) (e : TEntry) : List TEntry := if hasId e.ID L = true ∨ L.length < 4096 then putL e L else L
theorem put_any (q : Tqueue) (L : List TEntry) (h : R q L) (e : TEntry) : ∃ r q', Ev (fun k => agenda_Agenda_Put.f k ⟨q⟩ e) (r, ⟨q'⟩) ∧ R q' (stepL L e) ∧ (r = 0 ↔ (hasId e.ID L = true ∨ L.length < 4096)) := by
  have hp := put_f q L h e
  unfold stepL
  by_cases hc : hasId e.ID L = true ∨ L.length < 4096
  · rw [if_pos hc] at hp ⊢
    obtain ⟨q', h1, h2⟩ := hp
    exact ⟨0, q', h1, h2, fun _ => hc, fun _ => rfl⟩
  · rw [if_neg hc] at hp ⊢
    exact ⟨90, q, hp, h, fun x => absurd x (by decide), fun x => absurd x hc⟩
theorem mem_putL (x e : TEntry) (L : List TEntry) : x ∈ putL e L ↔ x = e ∨ (x ∈ L ∧ x.ID ≠ e.ID) := by
  rw [putL, (Heap.ins_perm e _).mem_iff, List.mem_cons, noId, List.mem_filter]
  simp
theorem hasId_putL (id : Int) (e : TEntry) (L : List TEntry) : hasId id (putL e L) = true ↔ id = e.ID ∨ hasId id L = true := by
  simp only [hasId, List.any_eq_true, decide_eq_true_eq]
  constructor
  · rintro ⟨x, hx, he⟩
    rcases (mem_putL x e L).1 hx with rfl | ⟨h1, _⟩
    · exact .inl he.symm
    · exact .inr ⟨x, h1, he⟩
  · intro h
    by_cases hid : id = e.ID
    · exact ⟨e, (mem_putL e e L).2 (.inl rfl), hid.symm⟩
    · rcases h with h | ⟨x, hx, he⟩
      · exact absurd h hid
      · exact ⟨x, (mem_putL x e L).2 (.inr ⟨hx, fun y => hid (he.symm.trans y)⟩), he⟩
theorem noId_len_eq {id : Int} {L : List TEntry} (hn : (L.map (·.ID)).Nodup) (h : hasId id L = true) : (noId id L).length + 1 = L.length := by
  simp only [hasId, List.any_eq_true, decide_eq_true_eq] at h
  obtain ⟨x, hx, rfl⟩ := h
  obtain ⟨i, hi, rfl⟩ := List.getElem_of_mem hx
  have h1 := noId_rest (erase_perm L i hi) hn
  rw [h1.length_eq, List.length_eraseIdx, if_pos hi]
  omega
theorem takeWhile_two {α : Type} (p r : α → Bool) (h : ∀ x, p x = true → r x = true) : ∀ L : List α, L.takeWhile p ++ (L.dropWhile p).takeWhile r = L.takeWhile r ∧ (L.dropWhile p).dropWhile r = L.dropWhile r
  | [] => ⟨rfl, rfl⟩
  | x :: L => by
    rw [List.takeWhile_cons, List.dropWhile_cons]
    cases hp : p x with
    | true =>
      have hr := h x hp
      obtain ⟨h1, h2⟩ := takeWhile_two p r h L
      simp only [if_true, List.cons_append, List.takeWhile_cons, hr, h1, List.dropWhile_cons, h2, and_self]
    | false => simp
end Go.Proofs.Ytnoocbdpkddpbaa.Pure
