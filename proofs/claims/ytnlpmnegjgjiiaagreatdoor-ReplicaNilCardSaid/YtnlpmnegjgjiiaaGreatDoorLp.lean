/- A package's variables, as a row lays them. Nothing is assumed. -/
import Derived.Test.YtnlpmnegjgjiiaaGreatDoorLo
import Derived.Test.YtnlpmnegjgjiiaaGreatDoorLj
import Derived.OpenShut
import Derived.FnData
namespace Go.WG
open Go Go.RowKit
theorem laid_glob {P : Program} {W : World} {n : String} {g N fuel : Nat} {t e : TypeId} {k : IntKind} {cs : Array Value} {p : List MemPlace} {vals : List Int} (hg : P.globalNamed n = some g) (ht : P.underlying t = some (.array N e)) (he : P.underlying e = some (.int k)) (hc : P.cellsOf e = 1) (hl : vals.length = N) (hv : W.var? P n = some cs)
    (hd : DataW.trod (fun _ => ()) P W 0 (fun _ => true) false fuel t cs.toList = some (.agg (vals.map fun v => .lit (.int k v)), p)) : CH.le (CH.row g 0 (vals.map (Value.int k))) (whole W) := by
  obtain ⟨xs, m, _, hx, hlen, hn, hel⟩ := DataW.trod_array ht hd
  simp only [Prod.mk.injEq, DataW.agg.injEq] at hx
  intro b o v hb
  obtain ⟨rfl, j, u, rfl, hj, rfl⟩ := CH.row_some hb
  rw [List.getElem?_map] at hj
  obtain ⟨z, hz, rfl⟩ := Option.map_eq_some_iff.1 hj
  have hjl : j < vals.length := (List.getElem?_eq_some_iff.1 hz).1
  have hjx : j < xs.length := by omega
  have h1 := hel j (by omega)
  rw [hc, Nat.mul_one, List.getElem?_eq_getElem hjx] at h1
  obtain ⟨r, e1, e2, _⟩ := DataW.trod_int he h1
  have h2 : (vals.map fun v => (DataW.lit (.int k v) : DataW Unit))[j]? = (xs.map (·.1))[j]? := by rw [hx.1]
  rw [List.getElem?_map, List.getElem?_map, hz, List.getElem?_eq_getElem hjx, e2] at h2
  simp only [Option.map_some, Option.some.injEq, DataW.lit.injEq, Lit.int.injEq, true_and] at h2
  subst h2
  have h3 : cs.toList[j]? = some (.int k z) := by
    have := congrArg (fun l => l[0]?) e1
    simpa [List.getElem?_take, List.getElem?_drop] using this
  show look W _ _ = _
  rw [Nat.zero_add]
  refine look_v.2 ?_
  rw [World.var?_cell hg hv j]
  simpa using h3
end Go.WG
