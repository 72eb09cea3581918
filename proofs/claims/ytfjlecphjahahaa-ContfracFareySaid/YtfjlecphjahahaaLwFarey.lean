/- The Farey sequence is that of the reference, or the error is; it consists of Farey neighbours. No condition: every number. -/
import Derived.Test.YtfjlecphjahahaaCfZ
import Derived.Test.YtfjlecphjahahaaCfI
import Derived.Test.YtfjlecphjahahaaCfS
namespace Go.Proofs.Ytfjlecphjahahaa.farey
open Go Go.RowKit Go.ChangeShapes Go.WideShapes Go.ChangeAt

theorem nb_of : ∀ (l : List C2), nbB l = true → ∀ j, 1 ≤ j → j < l.length → cross (l.getD (j - 1) C2.zero) (l.getD j C2.zero) = -1
  | [], _, j, _, h => by simp at h
  | [a], _, j, h1, h => by simp at h; omega
  | a :: b :: l, hb, j, h1, h => by
    simp only [nbB, Bool.and_eq_true, decide_eq_true_eq] at hb
    match j, h1 with
    | 1, _ => simpa [cross] using hb.1
    | j + 2, _ =>
      have := nb_of (b :: l) hb.2 (j + 1) (by omega) (by simpa using h)
      simpa using this
theorem far_nb (n : Nat) (h1 : 1 ≤ n) (h2 : n ≤ 60) : Nb (farF n) := by
  obtain ⟨-, -, h3, h4⟩ := tab n h1 h2
  refine ⟨fun j hj => ?_, fun j hj1 hj2 => .inr (nb_of _ h3 j hj1 hj2)⟩
  have := smallB_iff.1 (h4 ((farF n).getD j C2.zero) (by rw [getD_mem hj]; exact List.getElem_mem _))
  exact ⟨inB_iff.2 ⟨by omega, by omega⟩, inB_iff.2 ⟨by omega, by omega⟩⟩

set_option maxHeartbeats 1000000 in
theorem walk_all (n : Int) (L : List C2) (er : Int) (hl : L.length ≤ 1000000) (hnb : Hid (Nb L))
    (X : Hid (∀ w, Calls Try.prog 27 #[.int .i64 n] w fun e w' => ∃ v, e = .returned (.tuple #[v, .int .i64 er]) ∧ OwnCusps w' w.heap.size v L ∧ Grow w w'))
    (Y : Hid (∀ w, Calls Try.prog 28 #[.int .i64 n] w fun e w' => ∃ v, e = .returned (.tuple #[v, .int .i64 er]) ∧ OwnCusps w' w.heap.size v L ∧ Grow w w')) (w : World) :
    Calls Try.prog 9 #[.int .i64 n] w fun ex w' => ex = .returned (.bool true) ∧ Grow w w' := by
  go_enter Try.func9, Try.ntmps9
  go_wp2_with fail
  (go_at_call 13; refine (awake19_any _).mono ?_; rintro e w1 ⟨rfl, hb1⟩; have hc1 := hb1.cells; have hf1 := hb1.frees; have hz1 := hb1.size; (try simp at hz1))
  have hG1 := Lib.hid hb1
  clear hb1 hc1 hf1 hz1
  go_wp2_with fail
  go_at_call 27
  refine (X.out _).mono ?_
  rintro e w2 ⟨v2, rfl, ho2, hb2⟩
  have HR2 := Lib.hid ho2.rd
  have hG2 := Lib.hid (hG1.out.trans hb2)
  clear ho2 hb2 hG1
  go_wp2_with fail
  go_at_call 28
  refine (Y.out _).mono ?_
  rintro e w3 ⟨v3, rfl, ho3, hb3⟩
  have HR3 := Lib.hid (HR2.out.grow hb3)
  have HS := Lib.hid (same_same L _ _ (by omega) w3 HR3.out ho3.rd)
  have hG3 := Lib.hid (hG2.out.trans hb3)
  have hl2 : L.length ≤ 1152921504606846976 := by omega
  have HL := Lib.hid hl2
  clear ho3 hb3 hG2 HR2 hl2 hl X Y
  go_wp2_with (first | (go_at_call 19; refine HS.out.mono ?_; rintro e w4 ⟨rfl, hb4⟩) | (go_at_call 20; refine (nb_any L _ HL.out hnb.out _ (HR3.out.grow hb4)).mono ?_; rintro e w5 ⟨rfl, hb5⟩))
  go_ret
  exact ⟨rfl, (hG3.out.trans hb4).trans hb5⟩

theorem walk (n : Int) (_h : -9223372036854775808 ≤ n ∧ n ≤ 9223372036854775807) (w : World) :
    Calls Try.prog 9 #[.int .i64 n] w fun ex w' => ex = .returned (.bool true) ∧ Grow w w' := by
  by_cases hn : 1 ≤ n ∧ n ≤ 60
  · obtain ⟨k, hk⟩ : ∃ k : Nat, n = k := ⟨n.toNat, by omega⟩
    subst hk
    have h1 : 1 ≤ k := by omega
    have h2 : k ≤ 60 := by omega
    have hlen : (farF k).length ≤ 1000000 := by
      rw [(tab k h1 h2).2.1]
      have := Nat.le_trans (List.length_filter_le (fun c => decide (c.q ≤ (k : Int))) farM) farM_len
      omega
    exact walk_all k (farF k) 0 hlen (far_nb k h1 h2) (fun w => farey_core k (by omega) (by omega) (tab k h1 h2).1 _ rfl w) (fun w => refFarey_core k h1 h2 w) w
  · have hout : n < 1 ∨ 60 < n := by omega
    refine walk_all n [] 2 (by simp) ⟨fun j hj => by simp at hj, fun j _ hj => by simp at hj⟩ ?_ ?_ w
    · intro w
      refine (farey_out n hout w).mono ?_
      rintro e w' ⟨rfl, hg⟩
      exact ⟨_, rfl, World.ownsRow_nil _ _ _ _, hg⟩
    · intro w
      refine (refFarey_out n hout w).mono ?_
      rintro e w' ⟨rfl, hg⟩
      exact ⟨_, rfl, World.ownsRow_nil _ _ _ _, hg⟩

set_option maxRecDepth 100000 in
theorem lifted (os : Os) (started : os.Started) (H : Type) (enc : TypeId × Value → H) :
    ReturnsInHanded {} Try.checked os 9 .any (Rows.contfracFareySpec.pre6 enc Try.prog Try.f9 Rows.contfracFareyRow.domain false) (Rows.contfracFareySpec.post enc Try.prog Try.f9 false true false false) := by
  refine returnsInHanded_of_change (C := Try.checked) own started (by kernel_rfl) Try.func9
    (ChangeSpec.witness6 (enc := enc) (C := Try.checked) false ⟨#[], #[.int .i64 0], []⟩ 8 (by kernel_rfl) (by kernel_rfl) (by kernel_rfl) (by kernel_rfl)) ?_
  intro W base args ds gs before hval0 hW hcnd _
  have hval : ∀ (j : Nat) t v, Try.f9.params[j]? = some t → args[j]? = some v → Value.okWide Try.prog W .any base t v := hval0
  have hW' := hW
  obtain ⟨p, q, hA0, hV, rfl, -, -⟩ := hW
  have hA : DataW.TrodAll enc Try.prog W 0 (fun _ => true) true Try.f9.params.toList args.toList ds p := hA0
  rw [Try.params9] at hA hval
  obtain ⟨v0, vs0, d0, ds0, p0, q0, hargs, rfl, rfl, h0, r0⟩ := trodAll_cons hA
  obtain ⟨rfl, rfl, rfl⟩ := trodAll_nil r0
  obtain rfl : args = #[v0] := by cases args; simp_all
  obtain ⟨rfl, rfl⟩ := trodVars_none hV
  obtain ⟨a0, rfl, rfl, -, b0⟩ := open_int Try.underlying3 (hval 0 3 v0 rfl rfl) h0
  have c0 := bounds_i64 b0
  clear hA0 hval0
  refine (walk a0 c0 W).mono fun e W' ⟨he, hg⟩ => ?_
  subst he
  exact ⟨_, rfl, law_post 4 rfl Try.underlying4 laidOut (of_decide_eq_true (by kernel_rfl)) rfl hW' rfl hg⟩

theorem over : Rows.contfracFareyRow.holds Try.pinned (OpenSpec.ofChange Rows.contfracFareySpec) :=
  OpenClaim.holds_of_wide 9 Try.f9 rfl rfl rfl rfl rfl rfl rfl ⟨rfl, rfl, rfl, rfl, rfl⟩ rfl rfl rfl rfl rfl (by kernel_rfl) Try.func9 (by kernel_rfl)
    (of_decide_eq_true (by kernel_rfl)) (by unfold Func.isWrapper; rw [if_neg (by decide +kernel)]; exact ⟨rfl, rfl⟩)
    (fun os started H enc _ => lifted os started H enc)

theorem proved : Rows.ContfracFareySaid := over
end Go.Proofs.Ytfjlecphjahahaa.farey
