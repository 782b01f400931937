/- From the form's reading of the arguments to what the walks ask of them. -/
import Derived.Test.YtbiniecjenencaaRows
import Derived.Test.YtbiniecjenencaaBase
import Derived.ProofKit
import Derived.OpenShut
import Derived.ShutString
import Derived.ChangeOld
import Derived.SliceStrings
import Derived.SizedLaws
set_option linter.unusedVariables false
set_option linter.unusedSimpArgs false
set_option maxRecDepth 10000
namespace Go.Proofs.Ytbiniecjenencaa
open Go.ChangeShapes Go.WideShapes Go.ChangeAt Go.RowKit
open Go.ChangeMaps (open_string shut_string)

theorem rowOwn : ownKnob Try.prog.godebug = none := by kernel_rfl
theorem rowLaidOut : laidOutB Try.prog = true := by kernel_rfl

/-- A slice of numbers that came in. -/
theorem open_row {H : Type} {enc : TypeId × Value → H} {P : Program} {W : World} {t e : TypeId} {k : IntKind} {b : Nat} (ht : P.underlying t = some (.slice e)) (he : P.underlying e = some (.int k)) (hc : P.cellsOf e = 1) (hb : P.bytesOf e = b)
    {a : Option Addr} {len cap : Nat} {d : DataW H} {p : List MemPlace} (h : DataW.Trod enc P W 0 (fun _ => true) true t (.slice a len cap) d p)
    {ts : List TypeId} {ds : List (DataW H)} (hsz : (DataW.weightsEach P ts ds).all (· ≤ reachBytes) = true) {j : Nat} (hj : ts[j]? = some t) (hd : ds[j]? = some d) :
    ∃ zs : List Int, Cs W a (zs.map (Value.int k)) ∧ zs.length = len ∧ len ≤ cap ∧ cap ≤ maxLen ∧ cap * b ≤ 140737488351232 ∧ ∀ n ∈ zs, (Lit.int k n).wf = true := by
  obtain ⟨fuel, hf⟩ := h
  rcases open_ints ht he hc hf with ⟨hcs, _⟩ | ⟨x, l, c, zs, hcs, _, hl, hm, hz, hx, hcell, hwz⟩
  · simp [Value.cells] at hcs
    obtain ⟨rfl, rfl, rfl⟩ := hcs
    exact ⟨[], Cs.nil _ _, rfl, Nat.le_refl _, Nat.zero_le _, by simp, fun _ h => by cases h⟩
  · simp [Value.cells] at hcs
    obtain ⟨rfl, rfl, rfl⟩ := hcs
    simp only [Prod.mk.injEq] at hx
    obtain ⟨rfl, rfl⟩ := hx
    simp only [if_true] at hz
    have hr := sized_slice hsz hj hd ht
    rw [hb] at hr
    simp only [lits, List.length_map, List.length_take, List.length_drop, reachBytes] at hr
    refine ⟨zs.take len, ?_, by rw [List.length_take]; omega, hl, hm, ?_, fun n hn => hwz n (List.mem_of_mem_take hn)⟩
    · intro i u hu
      have hi : i < len := by
        have := (List.getElem?_eq_some_iff.1 hu).1
        simp at this; omega
      have h0 := hcell 0 (by omega)
      obtain ⟨xb, xo, spot⟩ := x
      have hspot : spot = none := by simpa [Addr.add] using World.cell?_spot h0
      subst hspot
      refine ⟨xb, xo, rfl, ?_⟩
      have hci := hcell i (by omega)
      rw [Addr.add_lit] at hci
      rw [hci]
      have e1 : ((zs.take len).map (Value.int k))[i]? = some (.int k (zs.getD i 0)) := by
        simp [hi, List.getD, show i < zs.length by omega]
      rw [e1] at hu
      exact hu
    · have e2 : min len zs.length + (zs.length - len) = cap := by omega
      rw [e2] at hr
      exact hr

/-- A slice of strings that came in. -/
theorem open_srow {H : Type} {enc : TypeId × Value → H} {P : Program} {W : World} {t e : TypeId} (ht : P.underlying t = some (.slice e)) (he : P.underlying e = some .string) (hc : P.cellsOf e = 1)
    {a : Option Addr} {len cap : Nat} {d : DataW H} {p : List MemPlace} (h : DataW.Trod enc P W 0 (fun _ => true) true t (.slice a len cap) d p) :
    ∃ ss : List ByteArray, Cs W a (ss.map Value.string) ∧ ss.length = len ∧ len ≤ cap ∧ cap ≤ maxLen ∧ ∀ s ∈ ss, s.size ≤ maxLen := by
  obtain ⟨fuel, hf⟩ := h
  rcases open_strings ht he hc hf with ⟨hcs, _⟩ | ⟨x, l, c, zs, hcs, _, hl, hm, hz, hx, hcell, hwz⟩
  · simp [Value.cells] at hcs
    obtain ⟨rfl, rfl, rfl⟩ := hcs
    exact ⟨[], Cs.nil _ _, rfl, Nat.le_refl _, Nat.zero_le _, fun _ h => by cases h⟩
  · simp [Value.cells] at hcs
    obtain ⟨rfl, rfl, rfl⟩ := hcs
    simp only [if_true] at hz
    refine ⟨zs.take len, ?_, by rw [List.length_take]; omega, hl, hm, fun n hn => hwz n (List.mem_of_mem_take hn)⟩
    · intro i u hu
      have hi : i < len := by
        have := (List.getElem?_eq_some_iff.1 hu).1
        simp at this; omega
      have h0 := hcell 0 (by omega)
      obtain ⟨xb, xo, spot⟩ := x
      have hspot : spot = none := by simpa [Addr.add] using World.cell?_spot h0
      subst hspot
      refine ⟨xb, xo, rfl, ?_⟩
      have hci := hcell i (by omega)
      rw [Addr.add_lit] at hci
      rw [hci]
      have e1 : ((zs.take len).map Value.string)[i]? = some (.string (zs.getD i ByteArray.empty)) := by
        simp [hi, List.getD, show i < zs.length by omega]
      rw [e1] at hu
      exact hu

/-- Numbers from 0 to 255 are bytes. -/
theorem bytes_of {zs : List Int} (h : ∀ n ∈ zs, (Lit.int .u8 n).wf = true) : zs.map (Value.int .u8) = bcells (zs.map fun n => UInt8.ofNat n.toNat) := by
  simp only [bcells, List.map_map]
  refine List.map_congr_left fun n hn => ?_
  obtain ⟨h0, h1⟩ := bounds_u8 (h n hn)
  simp [Nat.mod_eq_of_lt (show n.toNat < 256 by omega), Int.toNat_of_nonneg h0]
end Go.Proofs.Ytbiniecjenencaa
