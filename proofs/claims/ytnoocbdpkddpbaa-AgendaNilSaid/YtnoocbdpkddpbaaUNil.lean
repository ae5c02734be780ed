/- The law AgendaNil, as a plain function: true for every input. -/
import Derived.Test.YtnoocbdpkddpbaaUw
import Derived.Test.YtnoocbdpkddpbaaPNil
namespace Go.Proofs.Ytnoocbdpkddpbaa.Pure
open Go.WG Go.Proofs.Ytnoocbdpkddpbaa
theorem AgendaNil (a0 : TEntry) (h0 : ok29 a0) : ∃ k, juratlaw13_AgendaNil.f k a0 = some true := by
  obtain ⟨K, hK⟩ := awake_ev
  refine ⟨K + 2, ?_⟩
  have h := hK (K + 2) (by omega)
  simp only at h
  simp only [juratlaw13_AgendaNil.f, agenda_Agenda_Next_nil.f, agenda_Agenda_At_nil.f, agenda_Agenda_Put_nil.f, agenda_Agenda_Drop_nil.f, agenda_Agenda_Due_nil.f, agenda_Agenda_Due_nil.l1, agenda_Agenda_Len_nil.f, Option.bind_some, h]
  simp
end Go.Proofs.Ytnoocbdpkddpbaa.Pure
