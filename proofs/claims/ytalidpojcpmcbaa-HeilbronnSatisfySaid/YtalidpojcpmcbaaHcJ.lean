/- From a walk to a row: a list of ints is opened, with its reach. -/
import Derived.Test.YtalidpojcpmcbaaCfZ
import Derived.SizedLaws
namespace Go.Proofs.Ytalidpojcpmcbaa
open Go Go.RowKit Go.ChangeShapes Go.WideShapes Go.ChangeAt

theorem bytes_int : Try.prog.bytesOf 3 = 8 := by kernel_rfl
theorem lits_len (k : IntKind) (zs : List Int) {H : Type} : (lits (H := H) k zs).length = zs.length := by simp [lits]
theorem open_list_sized {H : Type} {enc : TypeId × Value → H} {w : World} {v : Value} {d : DataW H} {p : List MemPlace} {base : Nat} {spare : Nat → Bool} {held : Bool}
    {r : Reach} {b0 : Nat} (hs : ∀ el sp, d = .slice el sp → (el.length + sp.length) * Try.prog.bytesOf 3 ≤ reachBytes) (hv : Value.okWide Try.prog w r b0 32 v) (h0 : DataW.Trod enc Try.prog w base spare held 32 v d p) : ∃ l : List Int, RdInts w v l ∧ l.length ≤ 17592186044416 := by
  obtain ⟨l, hl⟩ := open_list hv h0
  refine ⟨l, hl, ?_⟩
  obtain ⟨a0, n0, c0, rfl⟩ := okWide_slice Try.underlying32 hv
  obtain ⟨fuel, h1⟩ := h0
  have hn : l.length = n0 := by
    obtain ⟨a, c, e⟩ := hl.form
    injection e with _ e2 _
    exact e2.symm
  rw [hn]
  rcases open_ints Try.underlying32 Try.underlying3 (by kernel_rfl) h1 with ⟨e1, -⟩ | ⟨a, len, cap, zs, e1, -, hle, -, hz, hx, hc, -⟩
  · simp [Value.cells] at e1
    omega
  · simp [Value.cells] at e1
    obtain ⟨rfl, rfl, rfl⟩ := e1
    simp only [Prod.mk.injEq] at hx
    have h := hs _ _ hx.1
    rw [bytes_int, lits_len, lits_len] at h
    have hr := reachBytes_lt
    have hzl : n0 ≤ zs.length := by rw [hz]; split <;> omega
    simp at h
    omega
end Go.Proofs.Ytalidpojcpmcbaa
