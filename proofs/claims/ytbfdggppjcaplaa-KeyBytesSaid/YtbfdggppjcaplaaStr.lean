/- string(b) of a row of bytes. -/
import Derived.Test.YtbfdggppjcaplaaBytes
namespace Go.Proofs.Ytbfdggppjcaplaa
open Go.RowKit

theorem run_str {P : Program} {src e dst : TypeId} (hs : P.underlying src = some (.slice e)) (he : P.underlying e = some (.int .u8)) (hd : P.underlying dst = some .string)
    {w : World} {a : Option Addr} {len cap : Nat} {zs : List Int} (h : Row .u8 w a len zs) :
    (convert src dst (.slice a len cap)).run P w = .ok (.string (strOfNums zs)) w := by
  by_cases h0 : len = 0
  · subst h0
    obtain rfl := List.eq_nil_of_length_eq_zero h.1
    cases a with
    | none => rw [run_convert_bytes_nil w src e hs he 0 cap dst hd]; rfl
    | some x =>
      rw [run_convert_bytes_string w src dst e _ 0 cap hs he hd, run_bytesToString w _ 0 cap [] (by simp [loadCells, loadCellsFrom])]
      rfl
  · rcases h.2.2 with h2 | ⟨b, off, rfl, hc⟩
    · exact absurd h2 h0
    · exact run_convert_bytes_arg w src e hs he b off len cap zs h.1 (fun i hi => by simpa using hc i hi) dst hd

theorem strOfNums_inj : ∀ (a b : List Int), (∀ x ∈ a, 0 ≤ x ∧ x ≤ 255) → (∀ x ∈ b, 0 ≤ x ∧ x ≤ 255) → strOfNums a = strOfNums b → a = b := by
  intro a b ha hb h
  have h1 : (strOfNums a).data.toList = (strOfNums b).data.toList := by rw [h]
  rw [strOfNums_data, strOfNums_data] at h1
  clear h
  induction a generalizing b with
  | nil => cases b with
    | nil => rfl
    | cons y b => simp at h1
  | cons x a ih => cases b with
    | nil => simp at h1
    | cons y b =>
      simp only [List.map_cons, List.cons.injEq] at h1
      have hx := ha x (by simp)
      have hy := hb y (by simp)
      have hxy : x = y := by
        have := congrArg UInt8.toNat h1.1
        simp only [UInt8.toNat_ofNat'] at this
        omega
      rw [hxy, ih b (fun z hz => ha z (by simp [hz])) (fun z hz => hb z (by simp [hz])) h1.2]

theorem own_form {k : IntKind} {T : TypeId} {w w' : World} {v : Value} {zs : List Int} (h : Own k T w w' v zs) (h0 : 0 < zs.length) (hm : zs.length ≤ maxLen) :
    ∃ g cap, v = .slice (some ⟨g, 0, none⟩) zs.length cap ∧ zs.length ≤ cap ∧ cap ≤ maxLen ∧ w.heap.size ≤ g ∧ Row k w' (some ⟨g, 0, none⟩) zs.length zs := by
  obtain ⟨hl, h2⟩ := h.1
  rcases h2 with ⟨_, hn⟩ | ⟨g, cap, cur, rfl, hg, hh, hn, hc, hs, ht⟩
  · omega
  · refine ⟨g, cap, rfl, hn, hc, hg, rfl, hm, .inr ⟨g, 0, rfl, fun i hi => ?_⟩⟩
    have := World.ownsRow.cellAt h.1 i (by omega)
    rw [Nat.zero_add, this]
    simp [hi]
theorem readKey_bytesOf (k : Int) : readKey (bytesOf k) = if valB k then k else 0 := by
  unfold readKey; rw [numOf_bytesOf]; simp [bytesOf]
theorem readOk_bytesOf (k : Int) : readOk (bytesOf k) = valB k := by
  unfold readOk; rw [numOf_bytesOf]; simp [bytesOf]

end Go.Proofs.Ytbfdggppjcaplaa
