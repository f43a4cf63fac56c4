import PyProof.Rows.All
import Wide.All
import OpenK.AllK
import Wide.FinOn
import HandS.ForMost
import HandS.Flow
import HandS.Style
import HandS.IsInst
import HandS.Walk
import HandS.Evl
import PySem.Challenge.RW_nestyard_k67_turns_counted
set_option Elab.async false
set_option linter.all false
set_option maxRecDepth 100000
set_option maxHeartbeats 4000000
namespace T67
open PySem PySem.Spec PyProof.Rows L2
/-! ### the text -/
def topS (i : Nat) : Stmt := PySem.Challenge.pw_nestyard_k67_turns_counted.main.body.getD i (.Pass ⟨0, 0, 0, 0⟩)
abbrev sTurns : Stmt := topS 1
abbrev sBegun : Stmt := topS 3
abbrev sNext : Stmt := topS 4
abbrev sPick : Stmt := topS 5
abbrev sLaw : Stmt := topS 6
theorem scT : FnScope ["schedule", "ahead", "who"] ["schedule"] (defScope sTurns) := ⟨rfl, rfl, rfl, by decide +kernel, rfl, by decide +kernel, by decide +kernel⟩
theorem scB : FnScope ["_law_cell", "_law_k"] ["_law_cell", "_law_k"] (defScope sBegun) := ⟨rfl, rfl, rfl, by decide +kernel, rfl, by decide +kernel, by decide +kernel⟩
theorem scN : FnScope ["_law_draw", "_law_size", "_law_found"] ["_law_draw", "_law_size"] (defScope sNext) := ⟨rfl, rfl, rfl, by decide +kernel, rfl, by decide +kernel, by decide +kernel⟩
theorem scP : FnScope ["_law_draw", "_law_some"] ["_law_draw", "_law_some"] (defScope sPick) := ⟨rfl, rfl, rfl, by decide +kernel, rfl, by decide +kernel, by decide +kernel⟩
theorem scL : FnScope ["_law_script", "_law_k", "_law_cell", "_law_draw", "_law_kinds", "_law_many", "_law_long", "_law_whos", "_law_schedule", "_law_due", "_law_who", "_law_copies", "_law_found"] ["_law_script"] (defScope sLaw) := ⟨rfl, rfl, rfl, by decide +kernel, rfl, by decide +kernel, by decide +kernel⟩
/-! ### the mathematics -/
/-- among the first i neighbours: how many are unlike -/
def tn (ws : List Str) : Nat → Nat
  | 0 => 0
  | i + 1 => tn ws i + if ws[i + 1]? = ws[i]? then 0 else 1
def turnsL (ws : List Str) : Nat := tn ws (ws.length - 1)
theorem tn_le (ws : List Str) : ∀ i, tn ws i ≤ i
  | 0 => Nat.le_refl _
  | i + 1 => by
    have := tn_le ws i
    simp only [tn]
    split <;> omega
theorem tn_app (ws us : List Str) : ∀ i, i + 1 ≤ ws.length ∨ i = 0 → tn (ws ++ us) i = tn ws i
  | 0, _ => rfl
  | i + 1, h => by
    have h1 : i + 1 < ws.length := by omega
    simp only [tn]
    rw [tn_app ws us i (by omega), List.getElem?_append_left h1, List.getElem?_append_left (by omega)]
theorem tn_rep (ws : List Str) (w : Str) : ∀ n, turnsL (ws ++ List.replicate (n + 1) w) = turnsL ws + (if ws = [] ∨ ws.getLast? = some w then 0 else 1)
  | 0 => by
    show tn _ _ = tn _ _ + _
    rw [List.length_append, List.length_replicate]
    cases ws with
    | nil => rfl
    | cons a r =>
      simp only [List.length_cons, Nat.add_sub_cancel, List.replicate, List.getLast?_eq_getElem?, reduceCtorEq, false_or, tn]
      rw [tn_app _ _ _ (by simp)]
      rw [List.getElem?_append_right (by simp), List.getElem?_append_left (by simp)]
      simp [eq_comm]
  | n + 1 => by
    have ih := tn_rep ws w n
    rw [← ih, List.replicate_succ' (n := n + 1), ← List.append_assoc]
    generalize hu : ws ++ List.replicate (n + 1) w = us
    have hl : us.getLast? = some w := by rw [← hu, List.replicate_succ', ← List.append_assoc, List.getLast?_concat]
    have hne : us ≠ [] := by rw [← hu]; simp
    show tn _ _ = tn _ _
    rw [List.length_append]
    cases us with
    | nil => exact absurd rfl hne
    | cons a r =>
      rw [List.getLast?_eq_getElem?] at hl
      simp only [List.length_cons, Nat.add_sub_cancel, List.length_nil, Nat.zero_add, tn] at hl ⊢
      rw [tn_app _ _ _ (by simp)]
      rw [List.getElem?_append_right (by simp), List.getElem?_append_left (by simp), hl]
      simp

/-! ### small helps -/
theorem same_upd {H : Hp} {p : Addr} {o : HO} (h : H p = none) : Same H (upd H p o) := fun b x e => by
  rw [upd_ne (ne_of_none e h)]
  exact e
theorem ite1 {b : Bool} {A B : Prop} (e : b = true) (h : A) : if b = true then A else B := by rw [if_pos e]; exact h
theorem ite0 {b : Bool} {A B : Prop} (e : b = false) (h : B) : if b = true then A else B := by rw [if_neg (by rw [e]; decide)]; exact h
structure Txt (K : PySem.W.Frag) (mg : Str → Option Value) : Prop where
  len : mg "len" = none
  zip : mg "zip" = none
  max : mg "max" = none
  min : mg "min" = none
  enumerate : mg "enumerate" = none
  list : mg "list" = none
  isinstance : mg "isinstance" = none
  int : mg "int" = none
  bool : mg "bool" = none
section
variable {P : Program} {w : World} {K : PySem.W.Frag} {mg : Str → Option Value} {base : Heap}
/-! ### turns -/
def spTurns (K : PySem.W.Frag) : Sp := fun vs H Q _ => ∃ (a : Addr) (ws : List Str), vs = [.ref a] ∧ SqL K H a (ws.map V.str) ∧ ws.length ≤ 1000 ∧ ∀ H', Same H H' → Q (.int (turnsL ws)) H'
theorem cut1 (xs : List V) : cutV xs (some 1) none = xs.drop 1 := by
  unfold cutV
  rw [show HT.sIx xs.length 0 (some 1) = min 1 xs.length from HT.sIx_nat xs.length 0 1, HT.sIx_none]
  cases xs with
  | nil => rfl
  | cons x r =>
    rw [show min 1 (x :: r).length = 1 by
      rw [List.length_cons]
      omega]
    show (List.take ((x :: r).length - 1) r) = r
    rw [List.length_cons, Nat.add_sub_cancel]
    exact List.take_length
theorem ok_turns {f : Addr} {fd : FuncData} (F : Fun K "turns" "turns" sTurns f fd) (T : Txt K mg) : FnOk P w K mg base CX0 1 f fd ["schedule"] (spTurns K) := by
  refine F.ok scT (fun vs H Q E h => ?_) (fun cdv A outer s H vs Q E hr h => ?_)
  · obtain ⟨a, ws, rfl, _⟩ := h
    rfl
  · obtain ⟨a, ws, rfl, hS, hlen, q⟩ := h
    refine ⟨_, (pss_one (ps_ret (pe_callB call_len_seq (by rfl) T.len PySem.boot_len (pa_cons (pe_lc (own := [("ahead", 1), ("who", 2)]) (g := gTup K 2 (gCons (gName 1) (gCons (gName 2) gNil))) (by rfl) scT.nd (pi_zip (by rfl) T.zip (pa_cons (pv 0) (pa_cons (pe_slice sl_list (pv 0) (po_some pe_int) po_none) pa_nil))) (blkOk_by (own := [("ahead", 1), ("who", 2)]) (N := ["schedule", "ahead", "who"]) (sc := defScope sTurns) (by decide +kernel)) (fun _ _ _ _ _ => (pg_tup rfl (pgs_cons (pg_name (i := 1) scT.nd rfl (.inl rfl)) (pgs_cons (pg_name (i := 2) scT.nd rfl (.inl rfl)) pgs_nil)))) (fun _ _ _ _ _ => (pts_one (pt_cmpR op_ne (pv 2) (pv 1) (nomark _)))) (fun _ _ _ _ _ => (pv 2))) pa_nil)))), ?_⟩
    refine ⟨.ref a, rfl, .ref a, rfl, 1, rfl, a, ws.map V.str, rfl, hS, fun c nc => ?_⟩
    have s1 : Same H (upd H c (.lst (cutV (ws.map V.str) (some 1) none))) := same_upd nc
    have hc : (upd H c (.lst (cutV (ws.map V.str) (some 1) none))) c = some (.lst ((ws.drop 1).map V.str)) := by
      rw [upd_same, cut1, List.map_drop]
    generalize upd H c (.lst (cutV (ws.map V.str) (some 1) none)) = H1 at s1 hc ⊢
    refine ⟨a, c, ws.map V.str, (ws.drop 1).map V.str, rfl, s1.seq hS, .inl (.inl hc), fun D nD => ?_⟩
    have hn : ws.length - 1 = min (ws.map V.str).length ((ws.drop 1).map V.str).length := by
      rw [List.length_map, List.length_map, List.length_drop]; omega
    refine lc_it (walk_zip hn) (fun i H2 => Same H1 H2 ∧ ∃ acc, H2 D = some (.lst acc) ∧ acc.length = tn ws i) ⟨same_upd nD, [], upd_same, rfl⟩ (fun i H2 _ g => ⟨g.1.seq (s1.seq hS), .inl (.inl (g.1 _ _ hc))⟩) ?_ ?_
    · rintro i x H2 H3 hi ⟨sm, acc, hD, hl⟩ ⟨Tt, x1, x2, rfl, nT, rfl, g1, g2⟩
      have h1 : i < ws.length := by omega
      have h2 : i + 1 < ws.length := by omega
      dsimp only at g1 g2
      rw [List.getElem?_map, List.getElem?_eq_getElem h1] at g1
      rw [List.getElem?_map, List.getElem?_drop, Nat.add_comm 1 i, List.getElem?_eq_getElem h2] at g2
      cases g1
      cases g2
      have smT : Same H2 (upd H2 Tt (.tup [.str ws[i], .str ws[i + 1]])) := same_upd nT
      have hDT := smT _ _ hD
      refine ⟨Tt, _, rfl, .inl (.inl upd_same), rfl, _, _, rfl, _, _, rfl, rfl, rfl, _, rfl, _, rfl, rfl, _, rfl, ?_⟩
      have e : tn ws (i + 1) = tn ws i + if ws[i + 1] = ws[i] then 0 else 1 := by
        simp only [tn, List.getElem?_eq_getElem h1, List.getElem?_eq_getElem h2, Option.some.injEq]
      refine ite2 (fun he => ?_) (fun he => ?_)
      · have hne : ws[i + 1] ≠ ws[i] := fun z => by simp [z] at he
        rw [if_neg hne] at e
        refine ⟨_, rfl, acc, hDT, small1000 (by have := tn_le ws i; omega), fun b o eb => ?_, _, upd_same, ?_⟩
        · rw [upd_ne (ne_of_none eb nD)]
          exact smT _ _ (sm _ _ eb)
        · rw [List.length_append, e, hl]; rfl
      · have hne : ws[i + 1] = ws[i] := by
          by_cases z : ws[i + 1] = ws[i]
          · exact z
          · exact absurd (by simp [z]) he
        rw [if_pos hne] at e
        exact ⟨sm.trans smT, acc, hDT, by omega⟩
    · rintro H2 ⟨sm, acc, hD, hl⟩
      refine ⟨D, acc, rfl, .inl (.inl (.inl hD)), ?_⟩
      rw [hl]
      exact q H2 (s1.trans sm)

/-! ### draws -/
abbrev dr (x y z : Int) : HO := .lst [.int x, .int y, .int z]
def spBegun : Sp := fun vs H Q _ => ∃ (c k : Int), vs = [.int c, .int k] ∧ 0 ≤ k ∧ k ≤ 1000 ∧ ∀ p x y, H p = none → Q (.ref p) (upd H p (dr x y 0))
theorem ok_begun {f : Addr} {fd : FuncData} (F : Fun K "_law_begun" "_law_begun" sBegun f fd) (T : Txt K mg) : FnOk P w K mg base CX0 1 f fd ["_law_cell", "_law_k"] spBegun := by
  refine F.ok scB (fun vs H Q E h => ?_) (fun cdv A outer s H vs Q E hr h => ?_)
  · obtain ⟨c, k, rfl, _⟩ := h
    rfl
  · obtain ⟨c, k, rfl, k0, k1, q⟩ := h
    refine ⟨_, (pss_one (ps_ret (pe_lst (pa_cons (pe_callB (call_max2 rfl) (by rfl) T.max (by decide +kernel) (pa_cons pe_int (pa_cons (pe_op op_sub (pv 0) (pe_op op_pow pe_int pe_int)) pa_nil))) (pa_cons (pe_op op_add (pv 0) (pe_op op_mul pe_int (pv 1))) (pa_cons pe_int pa_nil)))))), ?_⟩
    refine ⟨_, rfl, _, _, rfl, rfl, ⟨by decide, by decide, by decide⟩, _, _, rfl, rfl, _, _, rfl, ?_⟩
    refine ⟨_, rfl, _, rfl, _, _, rfl, rfl, .inl ⟨by decide, by decide⟩, _, _, rfl, rfl, (by show 3 ≤ sizeLine; decide), fun p hp => ?_⟩
    exact q p _ _ hp
def spNext : Sp := fun vs H Q _ => ∃ (a : Addr) (x y z n : Int), vs = [.ref a, .int n] ∧ H a = some (dr x y z) ∧ 0 < n ∧ n < 1073741824 ∧ 0 ≤ z ∧ z ≤ 200 ∧
  ∀ x' z' r, 0 ≤ r → r < n → 0 ≤ z' → z' ≤ z + 1 → Q (.int r) (upd H a (dr x' y z'))
theorem ok_next {f : Addr} {fd : FuncData} (F : Fun K "_law_next" "_law_next" sNext f fd) (T : Txt K mg) : FnOk P w K mg base CX0 1 f fd ["_law_draw", "_law_size"] spNext := by
  refine F.ok scN (fun vs H Q E h => ?_) (fun cdv A outer s H vs Q E hr h => ?_)
  · obtain ⟨a, x, y, z, n, rfl, _⟩ := h
    rfl
  · obtain ⟨a, x, y, z, n, rfl, hA, n0, n1, z0, z1, q⟩ := h
    refine ⟨_, (pss_cons (ps_if (pt_cmpR op_gt (pe_ix ix_list (pv 0) pe_int (fun _ _ => rfl)) pe_int (nomark _))
  (pss_cons (ps_set (i := 2) scN.nd rfl (.inl rfl) (pe_op op_modN (pe_ix ix_list (pv 0) pe_int (fun _ _ => rfl)) (pv 1)))
  (pss_cons (ps_asg (pe_op op_fdivN (pe_ix ix_list (pv 0) pe_int (fun _ _ => rfl)) (pv 1)) (pg_sub (pv 0) pe_int set_list))
  (pss_one (ps_ret (pv 2)))))
  pss_nil)
  (pss_cons (ps_asg (pe_op op_add (pe_ix ix_list (pv 0) pe_int (fun _ _ => rfl)) pe_int) (pg_sub (pv 0) pe_int set_list))
  (pss_cons (ps_set (i := 2) scN.nd rfl (.inl rfl) (pe_op op_add (pe_op op_mod (pe_ix ix_list (pv 0) pe_int (fun _ _ => rfl)) pe_int) (pe_op op_mul pe_int (pe_ix ix_list (pv 0) pe_int (fun _ _ => rfl)))))
  (pss_cons (ps_set (i := 2) scN.nd rfl (.inl rfl) (pe_op op_mul (pv 2) (pe_op op_add (pe_op op_add (pe_op op_mod (pe_ix ix_list (pv 0) pe_int (fun _ _ => rfl)) pe_int) (pe_op op_mul (pe_op op_mul pe_int (pe_ix ix_list (pv 0) pe_int (fun _ _ => rfl))) (pe_ix ix_list (pv 0) pe_int (fun _ _ => rfl)))) pe_int)))
  (pss_one (ps_ret (pe_op op_modN (pe_op op_fdiv (pe_op op_mod (pe_op op_pow (pv 2) pe_int) pe_int) pe_int) (pv 1)))))))), ?_⟩
    refine ⟨_, rfl, a, _, _, _, rfl, rfl, .inl (.inl hA), atI_nat (j := 0) rfl, _, _, rfl, rfl, _, rfl, ite2 (fun _ => ?_) (fun _ => ?_)⟩
    · refine ⟨_, rfl, a, _, _, _, rfl, rfl, .inl (.inl hA), atI_nat (j := 0) rfl, _, rfl, _, _, rfl, rfl, (by omega), ?_⟩
      refine ⟨_, rfl, a, _, _, _, rfl, rfl, .inl (.inl hA), atI_nat (j := 0) rfl, _, rfl, _, _, rfl, rfl, ⟨by omega, by omega⟩, ?_⟩
      refine ⟨_, rfl, a, _, _, 0, rfl, rfl, hA, rfl, ?_⟩
      refine ⟨_, rfl, ?_⟩
      exact q _ _ _ (Int.fmod_nonneg_of_pos _ n0) (Int.fmod_lt_of_pos _ n0) z0 (by omega)
    · refine ⟨_, rfl, a, _, _, _, rfl, rfl, .inl (.inl hA), atI_nat (j := 2) rfl, _, _, rfl, rfl, ?_⟩
      refine ⟨_, rfl, a, _, _, 2, rfl, rfl, hA, rfl, ?_⟩
      show tSeq _ _ _ _ (upd H a (dr x y (z + 1)))
      have hB : (upd H a (dr x y (z + 1))) a = some (dr x y (z + 1)) := upd_same
      refine ⟨_, rfl, a, _, _, _, rfl, rfl, .inl (.inl hB), atI_nat (j := 1) rfl, _, _, rfl, rfl, (by show (0 : Int) < 2147483629; decide), ?_⟩
      refine ⟨_, rfl, a, _, _, _, rfl, rfl, .inl (.inl hB), atI_nat (j := 2) rfl, _, _, rfl, rfl, .inl ⟨by decide, by decide⟩, ?_⟩
      refine ⟨_, _, rfl, rfl, ?_⟩
      refine ⟨_, rfl, ?_⟩
      refine ⟨_, rfl, a, _, _, _, rfl, rfl, .inl (.inl hB), atI_nat (j := 1) rfl, _, _, rfl, rfl, (by show (0 : Int) < 2147483587; decide), ?_⟩
      refine ⟨_, rfl, a, _, _, _, rfl, rfl, .inl (.inl hB), atI_nat (j := 2) rfl, _, _, rfl, rfl, .inl ⟨by decide, by decide⟩, ?_⟩
      refine ⟨_, rfl, a, _, _, _, rfl, rfl, .inl (.inl hB), atI_nat (j := 2) rfl, _, _, rfl, rfl, .inl ⟨by omega, by omega⟩, ?_⟩
      have hsq : 0 ≤ 7919 * (z + 1) * (z + 1) ∧ 7919 * (z + 1) * (z + 1) ≤ 7919 * 201 * 201 := by
        refine ⟨Int.mul_nonneg (by omega) (by omega), Int.mul_le_mul (by omega) (by omega) (by omega) (by omega)⟩
      refine ⟨_, _, rfl, rfl, _, _, rfl, rfl, ?_⟩
      have c0 : 0 ≤ y % 2147483629 + 104729 * (z + 1) ∧ y % 2147483629 + 104729 * (z + 1) ≤ 4294967295 := by omega
      have b0 : 0 ≤ y % 2147483587 + 7919 * (z + 1) * (z + 1) + 11 ∧ y % 2147483587 + 7919 * (z + 1) * (z + 1) + 11 ≤ 4294967295 := by omega
      refine ⟨_, _, rfl, rfl, .inl ⟨by omega, by omega⟩, ?_⟩
      have m0 := Int.mul_nonneg c0.1 b0.1
      have m1 := Int.mul_le_mul c0.2 b0.2 b0.1 (by omega)
      refine ⟨_, rfl, _, _, rfl, rfl, ⟨by decide, by decide, by omega⟩, _, _, rfl, rfl, (by show (0 : Int) < 2147483647; decide), _, _, rfl, rfl, ⟨by decide, by decide⟩, _, rfl, _, _, rfl, rfl, (by omega), ?_⟩
      exact q _ _ _ (Int.fmod_nonneg_of_pos _ n0) (Int.fmod_lt_of_pos _ n0) (by omega) (by omega)
def spPick (K : PySem.W.Frag) : Sp := fun vs H Q _ => ∃ (a l : Addr) (x y z : Int) (ys : List V), vs = [.ref a, .ref l] ∧ H a = some (dr x y z) ∧ (∀ o, SqL K (upd H a o) l ys) ∧ SqL K H l ys ∧ ys ≠ [] ∧ ys.length ≤ 1000 ∧ 0 ≤ z ∧ z ≤ 200 ∧
  ∀ x' z' v, v ∈ ys → 0 ≤ z' → z' ≤ z + 1 → Q v (upd H a (dr x' y z'))
theorem ok_pick {f fN : Addr} {fd fdN : FuncData} (F : Fun K "_law_pick" "_law_pick" sPick f fd) (T : Txt K mg) (FN : Fun K "_law_next" "_law_next" sNext fN fdN) (bN : Binds K fdN ["_law_draw", "_law_size"] []) (gN : mg "_law_next" = some (.ref fN)) : FnOk P w K mg base CX0 2 f fd ["_law_draw", "_law_some"] (spPick K) := by
  have GN : FnOk P w K mg base CX0 1 fN fdN ["_law_draw", "_law_size"] spNext := ok_next FN T
  refine F.ok scP (fun vs H Q E h => ?_) (fun cdv A outer s H vs Q E hr h => ?_)
  · obtain ⟨a, l, x, y, z, ys, rfl, _⟩ := h
    rfl
  · obtain ⟨a, l, x, y, z, ys, rfl, hA, hU, hL, hne, hlen, z0, z1, q⟩ := h
    refine ⟨_, (pss_one (ps_ret (pe_ix ix_list (pv 1) (pe_call GN hr (by rfl) gN FN.kp bN .nil pass0 (pa_cons (pv 0) (pa_cons (pe_callB call_len_seq (by rfl) T.len PySem.boot_len (pa_cons (pv 1) pa_nil)) pa_nil))) (fun _ _ => rfl)))), ?_⟩
    have hp : 0 < ys.length := List.length_pos_iff.mpr hne
    refine ⟨_, rfl, _, rfl, _, rfl, l, ys, rfl, .inl hL, a, x, y, z, _, rfl, hA, (by omega), (by omega), z0, z1, fun x' z' r r0 r1 z0' z1' => ?_⟩
    obtain ⟨j, rfl⟩ : ∃ j : Nat, r = (j : Int) := ⟨r.toNat, by omega⟩
    have hj : j < ys.length := by omega
    exact ⟨l, ys, _, ys[j], rfl, rfl, hU _, atI_nat (List.getElem?_eq_getElem hj), q _ _ _ (List.getElem_mem _) z0' z1'⟩

/-! ### the law -/
def four : List Str := ["0", "0.0", "clock", "0.1"]
theorem dp_strs {H : Hp} : ∀ ws : List Str, DpAll K H (ws.map V.str) (ws.map PyData.str)
  | [] => .nil
  | w :: ws => .cons (.str w) (dp_strs ws)
theorem strs_lay : ∀ ws : List Str, (∀ w ∈ ws, PyData.strOk w = true) → PyData.canLayAll0 (ws.map PyData.str) = true
  | [], _ => rfl
  | w :: ws, h => by
    have h1 := h w (List.mem_cons_self ..)
    have h2 := strs_lay ws fun u hu => h u (List.mem_cons_of_mem _ hu)
    simp only [List.map_cons, PyData.canLayAll0, PyData.canLay0, h1, h2, Bool.and_self]
theorem strs_depth : ∀ ws : List Str, PyData.depthAll (ws.map PyData.str) = 0
  | [] => rfl
  | w :: ws => by simp only [List.map_cons, PyData.depthAll, PyData.depth, strs_depth ws, Nat.max_self]
theorem strs_shaped (ws : List Str) (h : ∀ w ∈ ws, PyData.strOk w = true) : SeqAt.shaped (.list (ws.map PyData.str)) = true := by
  show (PyData.canLay0 (.list (ws.map PyData.str)) && decide (PyData.depth (.list (ws.map PyData.str)) ≤ 64)) = true
  simp only [PyData.canLay0, PyData.depth, strs_lay ws h, strs_depth ws]
  rfl
theorem eqvAll_strs : ∀ ws : List Str, PyData.eqvAll (ws.map PyData.str) (ws.map PyData.str) = true
  | [] => rfl
  | w :: ws => by simp only [List.map_cons, PyData.eqvAll, PyData.eqv, eqvAll_strs ws, beq_self_eq_true, Bool.and_self]
theorem four_ok : ∀ w ∈ four, PyData.strOk w = true := by decide +kernel
theorem script_or {a : Addr} {ns : List Int} {σ : L2.St} {H : Hp} {Q : VK} (h0 : σ[0]? = some (some (.ref a))) (hS : SqL K H a (ns.map V.int)) (hl : ns.length ≤ 63) (h : ∀ (b : Addr) (ms : List Int) (H1 : Hp), Same H H1 → SqL K H1 b (ms.map V.int) → ms.length ≤ 63 → Q (.ref b) H1) :
    tOrT K (tVar 0) (tLst (tCons (tC (.int 5)) tNil)) σ H Q := by
  refine ⟨_, h0, !(ns.map V.int).isEmpty, .inl ⟨_, hS, rfl⟩, ite2 (fun _ => h a ns H (Same.refl H) hS hl) fun _ => ⟨(by show 1 ≤ sizeLine; decide), fun p hp => h p [5] _ (same_upd hp) (.inl (.inl upd_same)) (by decide)⟩⟩
theorem cut_to (xs : List V) (n : Nat) : cutV xs none (some (n : Int)) = xs.take n := by
  unfold cutV
  rw [HT.sIx_none, HT.sIx_nat, List.drop_zero, Nat.sub_zero, List.take_eq_take_iff]
  omega
theorem cut_ints (ms : List Int) (n : Nat) : ∃ cs : List Int, cutV (ms.map V.int) none (some (n : Int)) = cs.map V.int ∧ cs.length ≤ n := by
  refine ⟨ms.take n, ?_, List.length_take_le _ _⟩
  unfold cutV
  rw [HT.sIx_none, HT.sIx_nat, List.length_map, List.drop_zero, List.map_take, Nat.sub_zero, List.take_eq_take_iff]
  simp only [List.length_map]
  omega
def spLaw (K : PySem.W.Frag) : Sp := fun vs H Q _ => ∃ (a : Addr) (ns : List Int), vs = [.ref a] ∧ SqL K H a (ns.map V.int) ∧ ns.length ≤ 63 ∧ ∀ H', Q (.bl true) H'
theorem ok_law {f fT fB fN fP : Addr} {fd fdT fdB fdN fdP : FuncData} (F : Fun K "law" "law" sLaw f fd) (T : Txt K mg)
    (FT : Fun K "turns" "turns" sTurns fT fdT) (bT : Binds K fdT ["schedule"] []) (gT : mg "turns" = some (.ref fT))
    (FB : Fun K "_law_begun" "_law_begun" sBegun fB fdB) (bB : Binds K fdB ["_law_cell", "_law_k"] []) (gB : mg "_law_begun" = some (.ref fB))
    (FN : Fun K "_law_next" "_law_next" sNext fN fdN) (bN : Binds K fdN ["_law_draw", "_law_size"] []) (gN : mg "_law_next" = some (.ref fN))
    (FP : Fun K "_law_pick" "_law_pick" sPick fP fdP) (bP : Binds K fdP ["_law_draw", "_law_some"] []) (gP : mg "_law_pick" = some (.ref fP)) :
    FnOk P w K mg base CX0 3 f fd ["_law_script"] (spLaw K) := by
  have GT : FnOk P w K mg base CX0 1 fT fdT ["schedule"] (spTurns K) := ok_turns FT T
  have GB : FnOk P w K mg base CX0 1 fB fdB ["_law_cell", "_law_k"] spBegun := ok_begun FB T
  have GN : FnOk P w K mg base CX0 1 fN fdN ["_law_draw", "_law_size"] spNext := ok_next FN T
  have GP : FnOk P w K mg base CX0 2 fP fdP ["_law_draw", "_law_some"] (spPick K) := ok_pick FP T FN bN gN
  refine F.ok scL (fun vs H Q E h => ?_) (fun cdv A outer s H vs Q E hr h => ?_)
  · obtain ⟨a, ns, rfl, _⟩ := h
    rfl
  · obtain ⟨a, ns, rfl, hS, hlen, q⟩ := h
    have hr1 : Room 1 _ := hr.mono (by decide)
    refine ⟨_, (pss_cons (ps_for PassesOwn.never rfl (pi_enum (by rfl) T.enumerate (pa_cons (pe_slice sl_list (pe_orT (pv 0) (pe_one (pe_lst (pa_cons pe_int pa_nil)))) po_none (po_some pe_int)) pa_nil)) (pg_tup rfl (pgs_cons (pg_name (i := 1) scL.nd rfl (.inl rfl)) (pgs_cons (pg_name (i := 2) scL.nd rfl (.inl rfl)) pgs_nil)))
  (pss_cons (ps_set (i := 3) scL.nd rfl (.inl rfl) (pe_call GB hr1 (by rfl) gB FB.kp bB .nil pass0 (pa_cons (pv 2) (pa_cons (pv 1) pa_nil))))
  (pss_cons (ps_par3 (i := 4) (j := 5) (l := 6) rfl scL.nd rfl rfl rfl (by decide) (by decide) (by decide) rfl rfl rfl (pa_cons (pe_op op_add pe_int (pe_call GN hr1 (by rfl) gN FN.kp bN .nil pass0 (pa_cons (pv 3) (pa_cons pe_int pa_nil)))) (pa_cons (pe_call GN hr1 (by rfl) gN FN.kp bN .nil pass0 (pa_cons (pv 3) (pa_cons pe_int pa_nil))) (pa_cons (pe_op op_add pe_int (pe_call GN hr1 (by rfl) gN FN.kp bN .nil pass0 (pa_cons (pv 3) (pa_cons pe_int pa_nil)))) pa_nil))) (by rfl))
  (pss_cons (ps_par3 (i := 7) (j := 8) (l := 9) rfl scL.nd rfl rfl rfl (by decide) (by decide) (by decide) rfl rfl rfl (pa_cons (pe_slice sl_list (pe_lst (pa_cons pe_str (pa_cons pe_str (pa_cons pe_str (pa_cons pe_str pa_nil))))) po_none (po_some (pv 4))) (pa_cons (pe_lst pa_nil) (pa_cons pe_int pa_nil))) (by rfl))
  (pss_cons (ps_while PassesOwn.never (pt_cmpR op_lt (pe_callB call_len_seq (by rfl) T.len PySem.boot_len (pa_cons (pv 8) pa_nil)) (pv 5) (nomark _))
  (pss_cons (ps_set (i := 10) scL.nd rfl (.inl rfl) (pe_call GP hr (by rfl) gP FP.kp bP .nil pass0 (pa_cons (pv 3) (pa_cons (pv 7) pa_nil))))
  (Evl.pss_cut (ps_if (PW.pt (pw_and (pt_cmpR (op_neD hr.units) (pv 8) (pe_lst pa_nil) (nomark _)) (pw_and1 (pt_cmpR op_ne (pe_ix ix_list (pv 8) (pe_un un_neg pe_int) (fun _ _ => rfl)) (pv 10) (nomark _)))))
  (pss_one (ps_set (i := 9) scL.nd rfl (.inl rfl) (pe_op op_add (pv 9) pe_int)))
  pss_nil)
  (pss_one (ps_expr (pe_bm PySem.F.plainAttrs_list PySem.F.slot_list_extend PySem.F.type_list_extend mt_extend (pv 8) (pa_cons (pe_op op_rep (pe_lst (pa_cons (pv 10) pa_nil)) (pe_callB (call_min2 rfl) (by rfl) T.min (by decide +kernel) (pa_cons (pe_op op_sub (pv 5) (pe_callB call_len_seq (by rfl) T.len PySem.boot_len (pa_cons (pv 8) pa_nil))) (pa_cons (pe_op op_add pe_int (pe_call GN hr1 (by rfl) gN FN.kp bN .nil pass0 (pa_cons (pv 3) (pa_cons (pv 6) pa_nil)))) pa_nil)))) pa_nil)))))))
  (pss_cons (ps_set (i := 11) scL.nd rfl (.inl rfl) (pe_callTy call_list_of (by rfl) T.list (by decide +kernel) (pa_cons (pv 8) pa_nil)))
  (pss_cons (ps_set (i := 12) scL.nd rfl (.inl rfl) (pe_call GT hr1 (by rfl) gT FT.kp bT .nil pass0 (pa_cons (pv 8) pa_nil)))
  (pss_one (ps_if (PW.pt (pw_or (pt_not (pt_val (pe_callB call_isi (by rfl) T.isinstance (by decide +kernel) (pa_cons (pv 12) (pa_cons (pe_bltn (v := .ty "int") (by rfl) T.int (by decide +kernel) rfl) pa_nil))))) (pw_or (pt_val (pe_callB call_isi (by rfl) T.isinstance (by decide +kernel) (pa_cons (pv 12) (pa_cons (pe_bltn (v := .ty "bool") (by rfl) T.bool (by decide +kernel) rfl) pa_nil)))) (pw_or (pt_cmpR op_ne (pv 12) (pv 9) (nomark _)) (pw_or1 (pt_cmpR (op_neD hr.units) (pv 8) (pv 11) (nomark _)))))))
  (pss_one (ps_ret pe_bl))
  pss_nil)))))))))
  (pss_one (ps_ret pe_bl))), ?_⟩
    refine script_or rfl hS (by omega) fun b ms H1 s1 hB hms => ?_
    -- the first twenty
    refine ⟨20, rfl, b, _, rfl, hB, fun c nc => ?_⟩
    obtain ⟨cs, ecs, lcs⟩ : ∃ cs : List Int, cutV (ms.map V.int) none (some 20) = cs.map V.int ∧ cs.length ≤ 20 := cut_ints ms 20
    rw [ecs]
    have s2 : Same H (upd H1 c (.lst (cs.map V.int))) := s1.trans (same_upd nc)
    have hC : (upd H1 c (.lst (cs.map V.int))) c = some (.lst (cs.map V.int)) := upd_same
    generalize upd H1 c (.lst (cs.map V.int)) = H2 at s2 hC ⊢
    refine ⟨c, _, rfl, .inl (.inl hC), for_it walk_enum (fun i σ H => (∃ y1 y2 y3 y4 y5 y6 y7 y8 y9 y10 y11 y12, σ = [some (.ref a), y1, y2, y3, y4, y5, y6, y7, y8, y9, y10, y11, y12]) ∧ H c = some (.lst (cs.map V.int)))
      ⟨⟨_, _, _, _, _, _, _, _, _, _, _, _, rfl⟩, hC⟩ (fun i σ H _ g => .inl (.inl g.2)) ?_ (fun σ H _ => q H)⟩
    rintro i x σ H3 H4 hi ⟨⟨y1, y2, y3, y4, y5, y6, y7, y8, y9, y10, y11, y12, rfl⟩, hC3⟩ ⟨Tt, x1, x2, rfl, nT, rfl, g1, g2⟩
    cases g1
    rw [List.length_map] at hi
    dsimp only at g2
    rw [List.getElem?_map, List.getElem?_eq_getElem hi] at g2
    cases g2
    have hC4 : (upd H3 Tt (.tup [.int (i : Nat), .int cs[i]])) c = some (.lst (cs.map V.int)) := by rw [upd_ne (ne_of_none hC3 nT)]; exact hC3
    refine ⟨Tt, _, rfl, .inl (.inl upd_same), rfl, _, _, rfl, _, _, rfl, rfl, ?_⟩
    generalize upd H3 Tt (.tup [.int (i : Nat), .int cs[i]]) = H5 at hC4 ⊢
    -- draw
    refine ⟨_, rfl, _, rfl, _, _, rfl, (by omega), (by omega), fun D dx dy nD => ?_⟩
    have hC6 : (upd H5 D (dr dx dy 0)) c = some (.lst (cs.map V.int)) := by rw [upd_ne (ne_of_none hC4 nD)]; exact hC4
    have hD6 : (upd H5 D (dr dx dy 0)) D = some (dr dx dy 0) := upd_same
    generalize upd H5 D (dr dx dy 0) = H6 at hC6 hD6 ⊢
    have cD : c ≠ D := ne_of_none hC4 nD
    -- kinds, many, long
    refine ⟨_, rfl, D, dx, dy, 0, 4, rfl, hD6, (by decide), (by decide), (by decide), (by decide), fun d1 z1 r1 r10 r11 z10 z11 => ⟨_, _, rfl, rfl, ?_⟩⟩
    refine ⟨_, rfl, D, d1, dy, z1, 41, rfl, upd_same, (by decide), (by decide), (by omega), (by omega), fun d2 z2 many r20 r21 z20 z21 => ?_⟩
    refine ⟨_, rfl, D, d2, dy, z2, 4, rfl, upd_same, (by decide), (by decide), (by omega), (by omega), fun d3 z3 r3 r30 r31 z30 z31 => ⟨_, _, rfl, rfl, _, _, _, rfl, ?_⟩⟩
    rw [upd_upd, upd_upd]
    -- whos, schedule, due
    have hC7 : (upd H6 D (dr d3 dy z3)) c = some (.lst (cs.map V.int)) := by rw [upd_ne cD]; exact hC6
    have hD7 : (upd H6 D (dr d3 dy z3)) D = some (dr d3 dy z3) := upd_same
    generalize upd H6 D (dr d3 dy z3) = H7 at hC7 hD7 ⊢
    refine ⟨(by show 4 ≤ sizeLine; decide), fun w4 nw4 => ?_⟩
    obtain ⟨j, rfl⟩ : ∃ j : Nat, r1 = (j : Int) := ⟨r1.toNat, by omega⟩
    refine ⟨_, rfl, 1 + j, rfl, w4, _, rfl, .inl (.inl upd_same), fun W nW => ?_⟩
    have eW : cutV [V.str "0", V.str "0.0", V.str "clock", V.str "0.1"] none (some (1 + (j : Int))) = (four.take (1 + j)).map V.str := by
      have := cut_to [V.str "0", V.str "0.0", V.str "clock", V.str "0.1"] (1 + j)
      rw [show ((1 + j : Nat) : Int) = 1 + (j : Int) by omega] at this
      rw [this, List.map_take]
      rfl
    rw [eW]
    refine ⟨Nat.zero_le _, fun S nS => ⟨_, _, _, rfl, ?_⟩⟩
    have nW7 : H7 W = none := by
      by_cases e : W = w4
      · rw [e, upd_same] at nW; cases nW
      · rwa [upd_ne e] at nW
    have nS8 : (upd H7 w4 (.lst [V.str "0", V.str "0.0", V.str "clock", V.str "0.1"])) S = none := by
      by_cases e : S = W
      · rw [e, upd_same] at nS; cases nS
      · rwa [upd_ne e] at nS
    have cW : c ≠ W := ne_of_none hC7 nW7
    have DW : D ≠ W := ne_of_none hD7 nW7
    have nS7 : H7 S = none := by
      by_cases e : S = w4
      · rw [e, upd_same] at nS8; cases nS8
      · rwa [upd_ne e] at nS8
    have cS : c ≠ S := ne_of_none hC7 nS7
    have DS : D ≠ S := ne_of_none hD7 nS7
    have WS : W ≠ S := ne_of_none upd_same nS
    have cw : c ≠ w4 := ne_of_none hC7 nw4
    have Dw : D ≠ w4 := ne_of_none hD7 nw4
    have hC9 : (upd (upd (upd H7 w4 (.lst [V.str "0", V.str "0.0", V.str "clock", V.str "0.1"])) W (.lst ((four.take (1 + j)).map V.str))) S (.lst [])) c = some (.lst (cs.map V.int)) := by
      rw [upd_ne cS, upd_ne cW, upd_ne cw]; exact hC7
    have hD9 : (upd (upd (upd H7 w4 (.lst [V.str "0", V.str "0.0", V.str "clock", V.str "0.1"])) W (.lst ((four.take (1 + j)).map V.str))) S (.lst [])) D = some (dr d3 dy z3) := by
      rw [upd_ne DS, upd_ne DW, upd_ne Dw]; exact hD7
    have hW9 : (upd (upd (upd H7 w4 (.lst [V.str "0", V.str "0.0", V.str "clock", V.str "0.1"])) W (.lst ((four.take (1 + j)).map V.str))) S (.lst [])) W = some (.lst ((four.take (1 + j)).map V.str)) := by
      rw [upd_ne WS, upd_same]
    have hS9 : (upd (upd (upd H7 w4 (.lst [V.str "0", V.str "0.0", V.str "clock", V.str "0.1"])) W (.lst ((four.take (1 + j)).map V.str))) S (.lst [])) S = some (.lst []) := upd_same
    generalize (upd (upd (upd H7 w4 (.lst [V.str "0", V.str "0.0", V.str "clock", V.str "0.1"])) W (.lst ((four.take (1 + j)).map V.str))) S (.lst [])) = H9 at hC9 hD9 hW9 hS9 ⊢
    -- the while
    refine while_by (fun σ H => ∃ (ws : List Str) (y10 y11 y12 : Option V) (dd z : Int), σ = [some (.ref a), some (.int (i : Nat)), some (.int cs[i]), some (.ref D), some (.int (1 + j)), some (.int many), some (.int (1 + r3)), some (.ref W), some (.ref S), some (.int (turnsL ws : Nat)), y10, y11, y12] ∧
        H c = some (.lst (cs.map V.int)) ∧ H D = some (dr dd dy z) ∧ H W = some (.lst ((four.take (1 + j)).map V.str)) ∧ H S = some (.lst (ws.map V.str)) ∧ (ws.length : Int) ≤ many ∧ 0 ≤ z ∧ z ≤ 3 + 2 * ws.length ∧ ∀ u ∈ ws, u ∈ four)
      (fun σ H => match H S with | some (.lst xs) => (many - xs.length).toNat | _ => 0) ⟨[], _, _, _, _, _, rfl, hC9, hD9, hW9, hS9, by show (0 : Int) ≤ many; omega, z30, by show z3 ≤ 3 + 2 * ((0 : Nat) : Int); omega, fun u hu => by cases hu⟩ ?_ ?_
    · rintro σ H ⟨ws, y10, y11, y12, dd, z, rfl, hC, hD, hW, hS, hlw, z0, z1, hws⟩
      refine ⟨_, rfl, S, _, rfl, .inl (.inl (.inl hS)), _, rfl, _, _, rfl, rfl, _, rfl, ite2 (fun hlt => ?_) (fun hlt => ?_)⟩
      · have hlt : (((ws.map V.str).length : Nat) : Int) < many := of_decide_eq_true hlt
        have hS0 := hS
        rw [List.length_map] at hlt
        have htk : (four.take (1 + j)).length ≤ 1000 := Nat.le_trans (List.length_take_le' _ _) (by decide)
        have htn : (four.take (1 + j)).map V.str ≠ [] := by
          rw [show 1 + j = j + 1 from Nat.add_comm 1 j]
          exact List.cons_ne_nil _ _
        refine ⟨_, rfl, _, rfl, D, W, dd, dy, z, (four.take (1 + j)).map V.str, rfl, hD, fun o => .inl (.inl ((upd_ne DW.symm).trans hW)), .inl (.inl hW), htn, by rw [List.length_map]; exact htk, z0, by omega, fun d4 z4 v hv z40 z41 => ?_⟩
        obtain ⟨u, hu, rfl⟩ := List.mem_map.mp hv
        have hu4 : u ∈ four := List.mem_of_mem_take hu
        have hC1 : (upd H D (dr d4 dy z4)) c = some (.lst (cs.map V.int)) := by rw [upd_ne cD]; exact hC
        have hD1 : (upd H D (dr d4 dy z4)) D = some (dr d4 dy z4) := upd_same
        have hW1 : (upd H D (dr d4 dy z4)) W = some (.lst ((four.take (1 + j)).map V.str)) := by rw [upd_ne DW.symm]; exact hW
        have hS1 : (upd H D (dr d4 dy z4)) S = some (.lst (ws.map V.str)) := by rw [upd_ne DS.symm]; exact hS
        generalize upd H D (dr d4 dy z4) = Hb at hC1 hD1 hW1 hS1 ⊢
        -- the test
        refine ⟨fun σ He => ∃ y12, σ = [some (.ref a), some (.int (i : Nat)), some (.int cs[i]), some (.ref D), some (.int (1 + j)), some (.int many), some (.int (1 + r3)), some (.ref W), some (.ref S), some (.int ((turnsL ws + (if ws = [] ∨ ws.getLast? = some u then 0 else 1) : Nat) : Int)), some (.str u), y11, y12] ∧
          He c = some (.lst (cs.map V.int)) ∧ He D = some (dr d4 dy z4) ∧ He W = some (.lst ((four.take (1 + j)).map V.str)) ∧ He S = some (.lst (ws.map V.str)), ?zA, ?zB⟩
        case zA =>
          refine ⟨_, rfl, Nat.zero_le _, fun e ne => ?_⟩
          have hC2 := same_upd (o := .lst []) ne _ _ hC1
          have hD2 := same_upd (o := .lst []) ne _ _ hD1
          have hW2 := same_upd (o := .lst []) ne _ _ hW1
          have hS2 := same_upd (o := .lst []) ne _ _ hS1
          have he2 : (upd Hb e (.lst [])) e = some (.lst []) := upd_same
          generalize upd Hb e (.lst []) = Hc at hC2 hD2 hW2 hS2 he2 ⊢
          refine ⟨.list (ws.map .str), .list [], .lst (.inl (.inl hS2)) (dp_strs ws), .lst (.inl (.inl he2)) .nil, strs_shaped ws fun w hw => four_ok w (hws w hw), rfl, _, rfl, ?_⟩
          cases hwe : ws with
          | nil =>
            refine iteF (iteF ?_)
            subst hwe
            exact ⟨y12, rfl, hC2, hD2, hW2, hS2⟩
          | cons w0 wr =>
            rw [← hwe]
            refine ite1 (by rw [hwe]; rfl) ?_
            have hne : ws ≠ [] := by rw [hwe]; exact List.cons_ne_nil _ _
            have hla : ws.getLast? = some (ws.getLast hne) := List.getLast?_eq_some_getLast hne
            have hat : atI (ws.map V.str) (-1) = some (.str (ws.getLast hne)) := by
              have := atI_last (ws.dropLast.map V.str) (.str (ws.getLast hne))
              rwa [← List.map_singleton, ← List.map_append, List.dropLast_concat_getLast] at this
            refine ⟨_, rfl, 1, rfl, S, _, _, _, rfl, rfl, .inl (.inl hS2), hat, _, rfl, rfl, _, rfl, ?_⟩
            by_cases hl : ws.getLast hne = u
            · refine ite0 (by simp [hl]) ⟨y12, ?_, hC2, hD2, hW2, hS2⟩
              rw [if_pos (.inr (by rw [hla, hl]))]
              rfl
            · refine ite1 (by simp [hl]) ⟨_, rfl, _, _, rfl, rfl, y12, ?_, hC2, hD2, hW2, hS2⟩
              rw [if_neg (by rw [hla]; simp [hne, hl])]
              rfl
        case zB =>
          rintro σ He ⟨y12', rfl, hC, hD, hW, hS⟩
          refine ⟨_, rfl, .inl ⟨rfl, _, .inl (.inl hS)⟩, _, rfl, (by show 1 ≤ sizeLine; decide), fun e ne => ?_⟩
          have eS : S ≠ e := ne_of_none hS ne
          have eD : D ≠ e := ne_of_none hD ne
          have hC2 := same_upd (o := .lst [.str u]) ne _ _ hC
          have hD2 := same_upd (o := .lst [.str u]) ne _ _ hD
          have hW2 := same_upd (o := .lst [.str u]) ne _ _ hW
          have hS2 := same_upd (o := .lst [.str u]) ne _ _ hS
          have he2 : (upd He e (.lst [.str u])) e = some (.lst [.str u]) := upd_same
          generalize upd He e (.lst [.str u]) = Hc at hC2 hD2 hW2 hS2 he2 ⊢
          refine ⟨_, rfl, _, rfl, S, _, rfl, .inl (.inl (.inl hS2)), _, _, rfl, rfl, ?_⟩
          refine ⟨_, rfl, _, rfl, D, d4, dy, z4, 1 + r3, rfl, hD2, (by omega), (by omega), z40, (by omega), fun d5 z5 r5 r50 r51 z50 z51 => ⟨_, _, rfl, rfl, _, _, rfl, ?_⟩⟩
          rw [List.length_map]
          obtain ⟨n, hn, hn1⟩ : ∃ n : Nat, (if 1 + r5 < many - (ws.length : Int) then 1 + r5 else many - (ws.length : Int)) = ((n + 1 : Nat) : Int) ∧ (ws.length : Int) + (n + 1) ≤ many := by
            by_cases hq : 1 + r5 < many - (ws.length : Int)
            · rw [if_pos hq]; exact ⟨r5.toNat, by omega, by omega⟩
            · rw [if_neg hq]; exact ⟨(many - (ws.length : Int) - 1).toNat, by omega, by omega⟩
          rw [hn]
          refine ⟨e, _, _, rfl, rfl, (by rw [upd_ne eD.symm]; exact he2), (by omega), (by omega), (by show 1 * (n + 1 : Nat) ≤ sizeLine; exact Nat.le_trans (by omega : _ ≤ 1000) (by decide)), fun g ng => ?_⟩
          rw [Int.toNat_natCast]
          have hC3 : (upd (upd Hc D (dr d5 dy z5)) g (.lst (List.replicate (n + 1) [V.str u]).flatten)) c = some (.lst (cs.map V.int)) := by
            refine same_upd ng _ _ ?_
            rw [upd_ne cD]; exact hC2
          have hD3 : (upd (upd Hc D (dr d5 dy z5)) g (.lst (List.replicate (n + 1) [V.str u]).flatten)) D = some (dr d5 dy z5) := same_upd ng _ _ upd_same
          have hW3 : (upd (upd Hc D (dr d5 dy z5)) g (.lst (List.replicate (n + 1) [V.str u]).flatten)) W = some (.lst ((four.take (1 + j)).map V.str)) := by
            refine same_upd ng _ _ ?_
            rw [upd_ne DW.symm]; exact hW2
          have hS3 : (upd (upd Hc D (dr d5 dy z5)) g (.lst (List.replicate (n + 1) [V.str u]).flatten)) S = some (.lst (ws.map V.str)) := by
            refine same_upd ng _ _ ?_
            rw [upd_ne DS.symm]; exact hS2
          have hg3 : (upd (upd Hc D (dr d5 dy z5)) g (.lst (List.replicate (n + 1) [V.str u]).flatten)) g = some (.lst ((List.replicate (n + 1) u).map V.str)) := by
            rw [upd_same, List.map_replicate]
            congr 2
            induction n + 1 with
            | zero => rfl
            | succ m ih => rw [List.replicate_succ, List.flatten_cons, ih]; rfl
          have nSg : (upd Hc D (dr d5 dy z5)) S = some (.lst (ws.map V.str)) := by rw [upd_ne DS.symm]; exact hS2
          have Sg : S ≠ g := ne_of_none nSg ng
          generalize upd (upd Hc D (dr d5 dy z5)) g (.lst (List.replicate (n + 1) [V.str u]).flatten) = Hf at hC3 hD3 hW3 hS3 hg3 ⊢
          refine ⟨S, g, _, _, rfl, rfl, hS3, hg3, Nat.le_trans (show _ ≤ 1000 by rw [List.length_map, List.length_map, List.length_replicate]; omega) (by decide), ?_⟩
          refine ⟨⟨ws ++ List.replicate (n + 1) u, some (.str u), y11, y12', d5, z5, ?_, ?_, ?_, ?_, ?_, ?_, z50, ?_, ?_⟩, ?_⟩
          · rw [tn_rep]
          · rw [upd_ne cS]; exact hC3
          · rw [upd_ne DS]; exact hD3
          · rw [upd_ne WS]; exact hW3
          · rw [upd_same, List.map_append]
          · rw [List.length_append, List.length_replicate]; omega
          · rw [List.length_append, List.length_replicate]; omega
          · intro x hx
            rcases List.mem_append.mp hx with hx | hx
            · exact hws x hx
            · rw [List.eq_of_mem_replicate hx]; exact hu4
          · show (match upd Hf S _ S with | some (.lst xs) => (many - xs.length).toNat | _ => 0) < (match H S with | some (.lst xs) => (many - xs.length).toNat | _ => 0)
            rw [hS0, upd_same]
            simp only [List.length_append, List.length_map, List.length_replicate]
            omega
      · -- copies
        refine ⟨_, rfl, S, _, rfl, .inl (.inl (.inl hS)), fun e ne => ?_⟩
        have hC2 := same_upd (o := .lst (ws.map V.str)) ne _ _ hC
        have hS2 := same_upd (o := .lst (ws.map V.str)) ne _ _ hS
        have he2 : (upd H e (.lst (ws.map V.str))) e = some (.lst (ws.map V.str)) := upd_same
        generalize upd H e (.lst (ws.map V.str)) = Hc at hC2 hS2 he2 ⊢
        -- found
        refine ⟨_, rfl, S, ws, rfl, .inl (.inl hS2), by omega, fun Hd sd => ?_⟩
        have hC3 := sd _ _ hC2
        have hS3 := sd _ _ hS2
        have he3 := sd _ _ he2
        refine ⟨_, rfl, _, _, _, _, true, rfl, .ty "int", .base (.int _), kit_ty (by decide +kernel), true, rfl, ?_⟩
        refine iteF ⟨_, rfl, _, _, _, _, false, rfl, .ty "bool", .base (.int _), kit_ty (by decide +kernel), false, rfl, ?_⟩
        refine iteF ⟨_, rfl, _, rfl, rfl, _, rfl, ?_⟩
        refine ite0 (by simp) ⟨_, rfl, _, rfl, .list (ws.map .str), .list (ws.map .str), .lst (.inl (.inl hS3)) (dp_strs ws), .lst (.inl (.inl he3)) (dp_strs ws), strs_shaped ws fun w hw => four_ok w (hws w hw), strs_shaped ws fun w hw => four_ok w (hws w hw), _, rfl, ?_⟩
        refine ite0 (by simp only [PyData.eqv, eqvAll_strs]; rfl) ?_
        exact ⟨⟨_, _, _, _, _, _, _, _, _, _, _, _, rfl⟩, hC3⟩
    · rintro σ H Q Q' hq ⟨v, e1, S', ys, e2, h3, m, e4, i1, i2, e5, e6, b, e7, h⟩
      exact ⟨v, e1, S', ys, e2, h3, m, e4, i1, i2, e5, e6, b, e7, hq _ _ h⟩
end
/-! ### what the top has written; the law's own head -/
theorem all_mk {l : PySem.W.OpenLaw} {w : World} {K : PySem.W.Frag} {h : Heap} {mg : Str → Option Value} {fa f1 f2 f3 f4 f5 : Addr} (X : K.In h) (G : h.Ns mainGlobals mg) (hfa : mg "law" = some (.ref fa))
    {od1 an1 od2 an2 od3 an3 od4 an4 od5 an5 : Option Addr} {sl1 sl2 sl3 sl4 sl5 : Array (Option Value)} {oc1 kV1 dc1 pm1 cd1 ct1 oc2 kV2 dc2 pm2 cd2 ct2 oc3 kV3 dc3 pm3 cd3 ct3 oc4 kV4 dc4 pm4 cd4 ct4 oc5 kV5 dc5 pm5 cd5 ct5 : Value}
    (a1 : PySem.W.nsIn K mainGlobals "turns" = some (some (.ref f1))) (l1 : K.lookup f1 = some ⟨oc1, od1, .func (PySem.W.fnOf "turns" "turns" (defArgs sTurns) (defBody sTurns) (defScope sTurns) .none kV1 dc1 pm1 an1 cd1 ct1), sl1⟩) (c1 : PySem.W.codeIn K cd1 "turns" = true) (k1 : PySem.W.keepIn K (.ref f1) = true)
    (a2 : PySem.W.nsIn K mainGlobals "_law_begun" = some (some (.ref f2))) (l2 : K.lookup f2 = some ⟨oc2, od2, .func (PySem.W.fnOf "_law_begun" "_law_begun" (defArgs sBegun) (defBody sBegun) (defScope sBegun) .none kV2 dc2 pm2 an2 cd2 ct2), sl2⟩) (c2 : PySem.W.codeIn K cd2 "_law_begun" = true) (k2 : PySem.W.keepIn K (.ref f2) = true)
    (a3 : PySem.W.nsIn K mainGlobals "_law_next" = some (some (.ref f3))) (l3 : K.lookup f3 = some ⟨oc3, od3, .func (PySem.W.fnOf "_law_next" "_law_next" (defArgs sNext) (defBody sNext) (defScope sNext) .none kV3 dc3 pm3 an3 cd3 ct3), sl3⟩) (c3 : PySem.W.codeIn K cd3 "_law_next" = true) (k3 : PySem.W.keepIn K (.ref f3) = true)
    (a4 : PySem.W.nsIn K mainGlobals "_law_pick" = some (some (.ref f4))) (l4 : K.lookup f4 = some ⟨oc4, od4, .func (PySem.W.fnOf "_law_pick" "_law_pick" (defArgs sPick) (defBody sPick) (defScope sPick) .none kV4 dc4 pm4 an4 cd4 ct4), sl4⟩) (c4 : PySem.W.codeIn K cd4 "_law_pick" = true) (k4 : PySem.W.keepIn K (.ref f4) = true)
    (a5 : PySem.W.nsIn K mainGlobals "law" = some (some (.ref f5))) (l5 : K.lookup f5 = some ⟨oc5, od5, .func (PySem.W.fnOf "law" "law" (defArgs sLaw) (defBody sLaw) (defScope sLaw) .none kV5 dc5 pm5 an5 cd5 ct5), sl5⟩) (c5 : PySem.W.codeIn K cd5 "law" = true) (k5 : PySem.W.keepIn K (.ref f5) = true)
    (z1 : PySem.W.nsIn K mainGlobals "len" = some none) (z2 : PySem.W.nsIn K mainGlobals "zip" = some none) (z3 : PySem.W.nsIn K mainGlobals "max" = some none) (z4 : PySem.W.nsIn K mainGlobals "min" = some none) (z5 : PySem.W.nsIn K mainGlobals "enumerate" = some none) (z6 : PySem.W.nsIn K mainGlobals "list" = some none) (z7 : PySem.W.nsIn K mainGlobals "isinstance" = some none) (z8 : PySem.W.nsIn K mainGlobals "int" = some none) (z9 : PySem.W.nsIn K mainGlobals "bool" = some none) :
    ∃ fd : FuncData, (∀ (s : Shared) (v : Value), BindsTo s fd ⟨[v], []⟩ [("_law_script", v)]) ∧ ∀ base : Heap, K.In base → base.Ns mainGlobals mg → FnOk l.prog w K mg base CX0 3 fa fd ["_law_script"] (spLaw K) := by
  have e := hfa.symm.trans (PySem.W.mg_of X G a5)
  cases e
  have F1 := fun_mk (st := sTurns) l1 c1 k1
  have F2 := fun_mk (st := sBegun) l2 c2 k2
  have F3 := fun_mk (st := sNext) l3 c3 k3
  have F4 := fun_mk (st := sPick) l4 c4 k4
  have F5 := fun_mk (st := sLaw) l5 c5 k5
  have b1 := F1.binds (ps := ["schedule"]) fun _ _ _ _ _ _ us hl => match us, hl with | [_], _ => rfl
  have b2 := F2.binds (ps := ["_law_cell", "_law_k"]) fun _ _ _ _ _ _ us hl => match us, hl with | [_, _], _ => rfl
  have b3 := F3.binds (ps := ["_law_draw", "_law_size"]) fun _ _ _ _ _ _ us hl => match us, hl with | [_, _], _ => rfl
  have b4 := F4.binds (ps := ["_law_draw", "_law_some"]) fun _ _ _ _ _ _ us hl => match us, hl with | [_, _], _ => rfl
  have T : Txt K mg := ⟨PySem.W.mg_none_of X G z1, PySem.W.mg_none_of X G z2, PySem.W.mg_none_of X G z3, PySem.W.mg_none_of X G z4, PySem.W.mg_none_of X G z5, PySem.W.mg_none_of X G z6, PySem.W.mg_none_of X G z7, PySem.W.mg_none_of X G z8, PySem.W.mg_none_of X G z9⟩
  exact ⟨PySem.W.fnOf "law" "law" (defArgs sLaw) (defBody sLaw) (defScope sLaw) .none kV5 dc5 pm5 an5 cd5 ct5, fun s v => .of_eq rfl, fun base _ _ => ok_law F5 T F1 b1 (PySem.W.mg_of X G a1) F2 b2 (PySem.W.mg_of X G a2) F3 b3 (PySem.W.mg_of X G a3) F4 b4 (PySem.W.mg_of X G a4)⟩
end T67
open PySem PySem.W PyProof.Rows
set_option maxRecDepth 100000 in
set_option maxHeartbeats 0 in
theorem PySem.Challenge.cw_nestyard_k67_turns_counted_holds : PySem.Challenge.rw_nestyard_k67_turns_counted.Holds := by
  w_on; o_law; k_head; (case hw => w_witness2)
  k_fill
  refine L2.walk_of (l := PySem.Challenge.rw_nestyard_k67_turns_counted) (n := 63) (k := 3) (x := "_law_script") (CX := fun _ => L2.CX0) (sp := fun w => T67.spLaw _) rfl (by decide) rfl ⟨rfl, by decide, by decide⟩ (fun w h Y => PySem.W.kIn_of Y) ?F (fun _ _ a ns hl _ hS => ⟨a, ns, rfl, hS, hl, fun _ => rfl⟩) (fun _ _ _ _ _ h => h)
  case F =>
    intro w mg fa h KX G hmg
    refine' T67.all_mk KX G hmg ?a1 ?l1 ?c1 ?k1 ?a2 ?l2 ?c2 ?k2 ?a3 ?l3 ?c3 ?k3 ?a4 ?l4 ?c4 ?k4 ?a5 ?l5 ?c5 ?k5 ?z1 ?z2 ?z3 ?z4 ?z5 ?z6 ?z7 ?z8 ?z9
    (case a1 => k_is); (case l1 => k_is); (case c1 => k_is); (case k1 => k_is); (case a2 => k_is); (case l2 => k_is); (case c2 => k_is); (case k2 => k_is); (case a3 => k_is); (case l3 => k_is); (case c3 => k_is); (case k3 => k_is); (case a4 => k_is); (case l4 => k_is); (case c4 => k_is); (case k4 => k_is); (case a5 => k_is); (case l5 => k_is); (case c5 => k_is); (case k5 => k_is); (case z1 => k_is); (case z2 => k_is); (case z3 => k_is); (case z4 => k_is); (case z5 => k_is); (case z6 => k_is); (case z7 => k_is); (case z8 => k_is); (case z9 => k_is)
