import PyProof.Rows.All
import Wide.All
import OpenK.AllK
import Wide.FinOn
import KE.KUnpackStar
import HandS.ForMost
import KE.SortData
import KE.KDictPairs
import PyProof.DictUpdate
import HandS.NoneIn
import PyProof.StrOps2
import PyProof.ReprReads
import PyProof.Rows.NestShow
import HandS.IsInst
import HandS.Flow
import HandS.Style
import HandS.Walk
import HandS.Evl
import HandS.Wide
import HandS.DictComp
import PyProof.SumAny
import HandS.ListItems
import PySem.Challenge.RW_nestyard_k43_steps_that_meet
set_option Elab.async false
set_option linter.all false
set_option maxRecDepth 100000
set_option maxHeartbeats 4000000
set_option autoImplicit false
/-! Own rules over the hand layer: targets with a star. -/
namespace HX
open PySem PySem.Spec PySem.Calls PyProof.Rows L2
section
variable {prog : Program} {w : World} {A : Around} {E : Value → Shared → Prop} {s : Shared}
/-- the items of a tuple over n targets of which the i-th has a star -/
theorem star_run {t : Addr} {its : Array Value} {n i : Nat} {Q : List Value → Shared → Prop} (ht : IsTup s.heap t its) (hh : A.handled = none) (hi : i < n) (hn : n ≤ its.size + 1) (hz : its.size ≤ 16384)
    (q : ∀ (g : Heap) (tk : Nat), (∀ b o, s.heap.get? b = some o → g.get? b = some o) →
      Q (its.toList.take i ++ [.ref g.objs.size] ++ (its.toList.drop i).drop (its.size + 1 - n)) { s with heap := g.push { cls := .type "list", data := .seq ((its.toList.drop i).take (its.size + 1 - n)).toArray }, toks := tk }) :
    wpAny (model prog w) A (unpackItems (.ref t) n (some i)) Q E s := by
  have tlt : t < s.heap.objs.size := ht.lt
  have tne : t ≠ s.heap.objs.size := Nat.ne_of_lt tlt
  have lens : (its.toList.take i).length = i ∧ (its.toList.drop i).length = its.size - i := by
    refine ⟨?_, ?_⟩
    · rw [List.length_take, Array.length_toList]; omega
    · rw [List.length_drop, Array.length_toList]
  unfold unpackItems
  apply wpAny_bind
  unfold notIterableAtAll
  apply wpAny_bind
  refine wpAny_specialOf ht.typeIs slot_tuple_iter.lookup (wpAny_pure ?_)
  simp only [Bool.false_eq_true, if_false]
  apply wpAny_bind
  refine wpAny_holding (iter_tuple ht ?_)
  apply wpAny_bind
  refine wpAny_holding (draw_tuple tne i 0 _ _ ⟨_, Heap.get?_push_size _ rfl, rfl, rfl⟩ (ht.push _) (by omega) fun g1 it1 sb => ?_)
  have ht1 : IsTup g1 t its := (ht.push _).extBut sb.extBut tne
  rw [Nat.zero_add] at it1
  obtain ⟨oi, eoi, _⟩ := id it1
  rw [List.drop_zero, if_neg (show ¬ ((its.toList.take i).length < i) by rw [lens.1]; exact Nat.lt_irrefl _)]
  apply wpAny_bind
  refine wpAny_holding (PySem.W.kun_collect (s := { s with heap := g1 }) (T := "tuple_iterator") (.inr (.inr (.inr rfl))) (Walks.tuple (A := A.in1) hh s.heap.objs.size t tne its) (fun j u st => st.1.typeIs) (k := i) (by omega) ⟨it1, ht1⟩ (Heap.lt_size eoi) ht1.lt (fun g2 tk kp => ?_) (by rw [sizeLine_eq]; omega))
  have mid : (its.toList.drop i).length - (n - 1 - i) = its.size + 1 - n := by rw [lens.2]; omega
  have enough : ¬ ((its.toList.drop i).length < n - 1 - i) := by rw [lens.2]; omega
  show wpAny _ _ (if (its.toList.drop i).length < n - 1 - i then _ else _) _ _ _
  rw [if_neg enough]
  show wpAny _ _ (newList ((its.toList.drop i).take ((its.toList.drop i).length - (n - 1 - i))) >>= fun d => pure (its.toList.take i ++ [d] ++ (its.toList.drop i).drop ((its.toList.drop i).length - (n - 1 - i)))) _ _ _
  rw [mid]
  apply wpAny_bind
  refine wpAny_newList (wpAny_pure ?_) (by rw [List.length_take, lens.2, sizeLine_eq]; omega)
  exact q g2 tk fun b o e => kp b o (Nat.ne_of_lt (Heap.lt_size e)) (sb.extBut b o (Nat.ne_of_lt (Heap.lt_size e)) (Heap.get?_push_of_some _ e))
end
/-- (a, *b, c) = a tuple: the starred one is a new list -/
def gStar (K : PySem.W.Frag) (n i : Nat) (t : TGs) : TG := fun v σ H Q => ∃ a xs, v = .ref a ∧ SqT K H a xs ∧ n ≤ xs.length + 1 ∧ xs.length ≤ 16384 ∧
  ∀ p, H p = none → t (xs.take i ++ [.ref p] ++ (xs.drop i).drop (xs.length + 1 - n)) σ (upd H p (.lst ((xs.drop i).take (xs.length + 1 - n)))) Q
section
variable {X : Cx}
theorem pgs_star {e : Expr} {es : List Expr} {t : TG} {u : TGs} {p : Pos} (h1 : PG X e t) (h2 : PGs X es u) : PGs X (.Starred e p :: es) (gCons t u) := by
  constructor
  intro pins s σ H vs us Q I r h
  obtain ⟨v, vr, rfl, h⟩ := h
  cases r with
  | cons r rr =>
    show wpAny _ _ (assignInOrder (assign e X.env :: (assignEach es X.env).map (·.2)) _) _ _ _
    exact assignInOrder_cons (thn (h1.run pins s σ H _ _ _ I r h) fun _ s1 ⟨σ1, H1, I1, q1⟩ => h2.run pins s1 σ1 H1 _ _ Q I1 rr q1)
theorem pg_star {es : List Expr} {k : Nat} {t : TGs} {n i : Nat} {pos : Pos} (hc : X.calm = true) (h : PGs X es t)
    (hn : (assignEach es X.env).length = n := by rfl) (hst : (assignEach es X.env).findIdx? (·.1) = some i := by rfl) (hi : i < n := by decide) : PG X (.Tuple es k pos) (gStar X.K n i t) := by
  refine ⟨fun pins s σ H v u Q I r hw => ?_⟩
  obtain ⟨a, xs, e1, hq, hl, hz, hw⟩ := hw
  subst e1
  cases r
  obtain ⟨its, rv, ht, _⟩ := I.tuple hq
  have el : its.length = xs.length := rv.length.symm
  rw [assign_Tuple]
  refine wpAny_bind (wpAny_standAt ?_)
  unfold unpack
  rw [hn, hst]
  refine wpAny_bind (wpAny_holding (star_run ht (I.ok.hd hc) hi (by rw [List.size_toArray, el]; exact hl) (by rw [List.size_toArray, el]; exact hz) fun g tk kp => ?_))
  simp only [List.size_toArray, el]
  have I1 : Inv X pins σ H { s with heap := g, toks := tk } := I.kept kp
  have I2 : Inv X pins σ (upd H g.objs.size (.lst ((xs.drop i).take (xs.length + 1 - n)))) { s with heap := g.push { cls := .type "list", data := .seq ((its.drop i).take (xs.length + 1 - n)).toArray }, toks := tk } :=
    I1.laid (t' := tk) (fun b o q => Heap.get?_push_of_some _ q) (Nat.le_refl _)
      ⟨Nat.le_trans (Nat.le_trans (List.length_take_le' _ _) (by rw [List.length_drop]; exact Nat.sub_le _ _)) (Nat.le_trans hz (by rw [sizeLine_eq]; omega)), _, 0, (rv.drop i).take _, Heap.get?_push_size _ rfl⟩
  exact h.run pins _ σ _ _ _ Q I2 (((rv.take i).append (show Vals [V.ref g.objs.size] [Value.ref g.objs.size] from .cons rfl .nil)).append ((rv.drop i).drop _)) (hw _ (I1.hok.fresh (Nat.le_refl _)))
end
end HX
/-! Own rules over the hand layer: sorted of data; dict of a tuple of pairs; update by a dict; a tuple whose object is plain. -/
namespace HX
open PySem PySem.Spec PySem.Calls PyProof.Rows L2
open PySem.W (EachIs)
section
variable {K : PySem.W.Frag} {H H' : Hp}
theorem dpAll_len : ∀ {xs : List V} {ds : List PyData}, DpAll K H xs ds → xs.length = ds.length
  | _, _, .nil => rfl
  | _, _, .cons _ t => congrArg (· + 1) (dpAll_len t)
theorem each_len {α β : Type} {R : α → β → Prop} : ∀ {as : List α} {bs : List β}, EachIs R as bs → as.length = bs.length
  | _, _, .nil => rfl
  | _, _, .cons _ t => congrArg (· + 1) (each_len t)
theorem each_of_vals : ∀ {xs : List V} {us : List Value} {ds : List PyData}, Vals xs us → xs.length = ds.length → EachIs (fun (u : Value) (b : V × PyData) => RelV b.1 u) us (xs.zip ds)
  | _, _, [], r, h => by
    cases r with
    | nil => exact .nil
    | cons _ _ => cases h
  | _, _, d :: ds, r, h => by
    cases r with
    | nil => cases h
    | cons r t => exact .cons r (each_of_vals t (Nat.succ.inj h))
theorem vals_of_each : ∀ {us : List Value} {bs : List (V × PyData)}, EachIs (fun (u : Value) (b : V × PyData) => RelV b.1 u) us bs → Vals (bs.map (·.1)) us
  | _, _, .nil => .nil
  | _, _, .cons r t => .cons r (vals_of_each t)
theorem zip_snd : ∀ {xs : List V} {ds : List PyData}, xs.length = ds.length → (xs.zip ds).map (·.2) = ds
  | [], [], _ => rfl
  | x :: xs, d :: ds, h => by
    rw [List.zip_cons_cons, List.map_cons, zip_snd (Nat.succ.inj h)]
/-- the items, sorted by the data that they are -/
def sortD (xs : List V) (ds : List PyData) : List V := ((xs.zip ds).mergeSort (PySem.W.dataLe false (·.2))).map (·.1)
theorem sortD_perm {xs : List V} {ds : List PyData} (h : xs.length = ds.length) : (sortD xs ds).Perm xs := by
  have h1 := (List.mergeSort_perm (xs.zip ds) (PySem.W.dataLe false (·.2))).map (·.1)
  rwa [List.map_fst_zip (Nat.le_of_eq h)] at h1
def rSortD (K : PySem.W.Frag) : List V → Hp → VK → Prop := fun vs H Q => ∃ (a : Addr) (xs : List V) (ds : List PyData), vs = [V.ref a] ∧ SqL K H a xs ∧ DpAll K H xs ds ∧ PySem.W.AllAlike ds ∧ PySem.W.Sortable ds ∧ (∀ d ∈ ds, d.depth ≤ 60) ∧
  ∀ p, H p = none → Q (.ref p) (upd H p (.lst (sortD xs ds)))
end
section
variable {X : Cx} {pins : List (Addr × Obj)} {σ : L2.St} {H : Hp} {s : Shared}
theorem reads_each (I : Inv X pins σ H s) : ∀ {xs : List V} {us : List Value} {ds : List PyData}, Vals xs us → DpAll X.K H xs ds → EachIs (fun (u : Value) (b : V × PyData) => ∃ as, Reads s.heap u b.2 as) us (xs.zip ds)
  | _, _, _, .nil, .nil => .nil
  | _, _, _, .cons r t, .cons h k => .cons (Dp.reads I _ _ _ h r) (reads_each I t k)
theorem cr_sortD (hu : X.A.units + 64 < cLine) : CallR X (.builtin "sorted") (rSortD X.K) := by
  intro pins s σ H vs us Q I r h
  obtain ⟨a, xs, ds, rfl, hs, hd, hal, hk, hdep, q⟩ := h
  obtain ⟨its, rv, hl, hz⟩ := I.list hs
  rw [Vals.ref1 r]
  have el := dpAll_len hd
  have ez : (xs.zip ds).length = xs.length := by rw [List.length_zip, el, Nat.min_self]
  have e2 : (xs.zip ds).map (fun b : V × PyData => b.2) = ds := zip_snd el
  refine PySem.W.sorted_data (enc := fun b : V × PyData => b.2) hl.isList (each_of_vals rv el) (reads_each I rv hd) (by rw [e2]; exact hal) (by rw [e2]; exact hk) (by rw [ez]; exact hz) (fun b hb => ?_) fun out ho eo => ?_
  · have hb2 : b.2 ∈ ds := by rw [← e2]; exact List.mem_map.mpr ⟨b, hb, rfl⟩
    have := hdep _ hb2
    omega
  · obtain ⟨c, he⟩ := PyProof.Rows.sortedAll_at s.heap its out.toArray
    have hlen : (sortD xs ds).length ≤ sizeLine := by rw [(sortD_perm el).length_eq]; exact hz
    exact ⟨.ref _, upd H (s.heap.objs.size + 1) (.lst (sortD xs ds)), I.laid (t' := s.toks) (fun _ _ => PyProof.Rows.sortedAll_old) (Nat.le_succ _) ⟨hlen, out, c, vals_of_each eo, he⟩, rfl, q _ (I.hok.fresh (Nat.le_succ _))⟩
/-- tuple(list): its object has no dict of its own -/
def rTupP (K : PySem.W.Frag) : List V → Hp → VK → Prop := fun vs H Q => ∃ (a : Addr) (xs : List V), vs = [V.ref a] ∧ SqL K H a xs ∧ ∀ (p : Addr) (o : Obj), H p = none → o.dict = none → Q (.ref p) (upd H p (.frz o (.tup xs)))
theorem call_tupP : CallR X (.type "tuple") (rTupP X.K) := by
  intro pins s σ H vs us Q I r h
  obtain ⟨a, xs, rfl, hs, q⟩ := h
  obtain ⟨its, rv, hl, hz⟩ := I.list hs
  rw [Vals.ref1 r]
  have el := rv.length
  refine call_tuple_list hl.isList (fun g kp => ?_) (by rw [List.size_toArray, ← el]; exact hz)
  have I1 : Inv X pins σ H { s with heap := g } := I.kept (t' := s.toks) kp
  have e : (g.push { cls := .type "tuple", data := .seq its.toArray }).get? g.objs.size = some { cls := .type "tuple", data := .seq its.toArray } := Heap.get?_push_size _ rfl
  exact ⟨.ref g.objs.size, _, I1.laid (t' := s.toks) (fun _ _ k => Heap.get?_push_of_some _ k) (Nat.le_refl _) (show ObjOk X.prog X.w _ _ _ (.frz _ (.tup xs)) from ⟨e, hz, its, rv, _, e, rfl, _, rfl⟩), rfl, q _ _ (I1.hok.fresh (Nat.le_refl _)) rfl⟩
end
end HX
namespace HX
open PySem PySem.Spec PySem.Calls PyProof.Rows L2
open PySem.W (EachIs)
section
variable {X : Cx} {pins : List (Addr × Obj)} {σ : L2.St} {H : Hp} {s : Shared}
theorem pairs_v (I : Inv X pins σ H s) : ∀ {ps : List Addr} {kvs : List (Key × V)}, Paired (fun p kv => SqT X.K H p [kV kv.1, kv.2]) ps kvs →
    ∃ (prs : List (Key × Value)) (rs : List (Value × Value)), KV kvs prs ∧ prs.length = ps.length ∧ rs.length = ps.length ∧
      ∀ (j : Nat) (k v : Value), rs[j]? = some (k, v) → ∃ (b : Addr) (key : Key), ps[j]? = some b ∧ IsTup s.heap b #[k, v] ∧ prs[j]? = some (key, v) ∧ keyIs key k = true
  | _, _, .nil => ⟨[], [], .nil, rfl, rfl, fun j k v e => by simp at e⟩
  | _, _, .cons (a := p) (b := kv) h t => by
    obtain ⟨prs, rs, r, l1, l2, hp⟩ := pairs_v I t
    obtain ⟨its, rv, ht, _⟩ := I.tuple h
    obtain ⟨u, y, ei, ru, ry⟩ := vals2 rv
    subst ei
    refine ⟨(kv.1, y) :: prs, (u, y) :: rs, .cons ⟨rfl, ry⟩ r, congrArg (· + 1) l1, congrArg (· + 1) l2, fun j k v e => ?_⟩
    cases j with
    | zero =>
      obtain ⟨rfl, rfl⟩ := Prod.mk.inj (Option.some.inj e)
      exact ⟨p, kv.1, rfl, ht, rfl, kV_is (P := X.prog) (w := X.w) ru⟩
    | succ j => exact hp j k v e
/-- dict(t), t a plain tuple of pairs -/
def rDictT (K : PySem.W.Frag) : List V → Hp → VK → Prop := fun vs H Q => ∃ (a : Addr) (o : Obj) (ps : List Addr) (kvs : List (Key × V)), vs = [.ref a] ∧ H a = some (.frz o (.tup (ps.map V.ref))) ∧ o.dict = none ∧ Paired (fun p kv => SqT K H p [kV kv.1, kv.2]) ps kvs ∧
  ∀ p, H p = none → Q (.ref p) (upd H p (.dK (mergeK [] kvs)))
theorem call_dictT (hcalm : X.calm = true) : CallR X (.type "dict") (rDictT X.K) := by
  intro pins s σ H vs us Q I r h
  obtain ⟨a, o, ps, kvs, rfl, ha, od, hp, q⟩ := h
  rw [Vals.ref1 r]
  obtain ⟨ho, hz, its, rv, o2, ho2, hc, n, hd⟩ := (show ObjOk X.prog X.w H s.heap a (.frz o (.tup (ps.map V.ref))) from I.hok a _ ha)
  rw [ho] at ho2
  cases ho2
  have ei := refs_at rv
  subst ei
  rw [List.length_map] at hz
  obtain ⟨prs, rs, rel, l1, l2, hq⟩ := pairs_v I hp
  refine PySem.call_dict_pairs (knd := mixKind X.prog X.w) (kvs := prs) (PairArg.tuple a (ps.map Value.ref).toArray (fun j => ps[j]?.getD 0) rs) (I.ok.hd hcalm) ⟨⟨o, n, ho, hc, od, hd⟩, by simp [l2], fun j k v e => ?_⟩ ⟨by rw [l1, l2], fun i k v e => ?_⟩ (by rw [l2]; exact hz) fun h' tk hd' kp => ?_
  · obtain ⟨b, key, e1, e2, _⟩ := hq j k v e
    have e5 : s.heap.IsTuple b #[k, v] := e2
    exact ⟨by simp [e1], .inl (by simpa [e1] using e5)⟩
  · obtain ⟨b, key, e1, e2, e3, e4⟩ := hq i k v e
    exact ⟨key, e3, e4⟩
  · have hm : (s.heap.objs.size == sysModules) = false := beq_eq_false_iff_ne.mpr (Nat.ne_of_gt I.big)
    have hlen : (mergeK [] kvs).length ≤ sizeLine := by
      refine Nat.le_trans (length_mergeK kvs []) ?_
      rw [List.length_nil, Nat.zero_add, rel.length, l1]
      exact hz
    exact ⟨.ref s.heap.objs.size, upd H s.heap.objs.size (.dK (mergeK [] kvs)), I.laid (t' := tk) (fun b o e => kp b o (by simp) e) (Nat.le_refl _) (show ObjOk X.prog X.w _ _ _ (.dK (mergeK [] kvs)) from ⟨hlen, hm, merged [] prs, KV.merge rel .nil, hd'⟩), rfl, q _ (I.hok.fresh (Nat.le_refl _))⟩
end
end HX
/-! Own rules: dict(d), text * number. -/
namespace HX
open PySem PySem.Spec PySem.Calls PyProof.Rows L2
section
variable {X : Cx}
/-- dict(d): a new dict of the same pairs -/
def rDictC : List V → Hp → VK → Prop := fun vs H Q => ∃ (a : Addr) (kvs : List (Key × V)), vs = [.ref a] ∧ Rd H a (.dK kvs) ∧ ∀ p, H p = none → Q (.ref p) (upd H p (.dK kvs))
theorem call_dictC : CallR X (.type "dict") rDictC := by
  intro pins s σ H vs us Q I r h
  obtain ⟨a, kvs, rfl, e, q⟩ := h
  rw [Vals.ref1 r]
  exact d_copyOf I e fun p s' hp I' => ⟨.ref p, _, I', rfl, q p hp⟩
/-- a text so many times -/
def times (x : Str) (n : Nat) : Str := ⟨((List.replicate n x.cps.toList).flatten).toArray⟩
theorem times_len (x : Str) (n : Nat) : (times x n).length = n * x.length := by
  show (List.flatten _).toArray.size = n * x.cps.size
  rw [List.size_toArray, List.length_flatten, List.map_replicate, List.sum_replicate_nat, Array.length_toList]
theorem fold_rep (c : Array Nat) : ∀ (n : Nat) (acc : Array Nat), ((List.replicate n c).foldl (· ++ ·) acc).toList = acc.toList ++ (List.replicate n c.toList).flatten
  | 0, acc => by simp
  | n + 1, acc => by
    rw [List.replicate_succ, List.foldl_cons, fold_rep c n, List.replicate_succ, List.flatten_cons, Array.toList_append, List.append_assoc]
def rTimes : R2 := fun x y H Q => ∃ (z : Str) (n : Nat), x = .str z ∧ y = .int (n : Int) ∧ n ≤ 1000 ∧ z.length ≤ 10000 ∧ Q (.str (times z n)) H
theorem op_times : OpR X (binaryOp .Mult) rTimes := by
  intro pins s σ H x y v u Q I rx ry h
  obtain ⟨z, n, rfl, rfl, hn, hz, q⟩ := h
  obtain ⟨t, rfl⟩ := rx
  obtain ⟨t', rfl⟩ := ry
  have hm : z.length * n ≤ 10000 * 1000 := Nat.mul_le_mul hz hn
  refine PySem.P.mul_str (by simp only [Bool.or_eq_false_iff, decide_eq_false_iff_not]; omega) (fun h1 _ => ?_) (fun _ _ => ?_) ?_
  · have h2 : (0 : Int) < (n : Int) := by omega
    have h3 : (z.length : Int) ≤ (2 ^ 63 - 1) / (n : Int) := Int.le_ediv_of_mul_le h2 (by rw [← Int.natCast_mul]; omega)
    omega
  · rw [Int.toNat_natCast]
    show decide (z.length * n > sizeLine) = false
    rw [decide_eq_false_iff_not, sizeLine_eq]
    omega
  · have fin : ∀ (w : Str), w = times z n → w.length ≤ sizeLine ∧ EP X pins σ Q (.str w s.toks) { s with toks := s.toks + 1 } := fun w e => by
      subst e
      refine ⟨?_, .str (times z n), H, I.tok _, ⟨_, rfl⟩, q⟩
      rw [times_len, Nat.mul_comm, sizeLine_eq]
      omega
    by_cases h0 : n = 0
    · subst h0
      rw [if_pos (by decide)]
      exact fin _ rfl
    · rw [if_neg (show ¬ ((n : Int) < 1) by omega)]
      by_cases h1 : ((n : Int) == 1 || z.length == 0) = true
      · rw [if_pos h1]
        have e : z = times z n := by
          rcases Bool.or_eq_true_iff.mp h1 with h | h
          · have : n = 1 := by have := eq_of_beq h; omega
            subst this
            show z = ⟨([z.cps.toList].flatten).toArray⟩
            simp
          · have hz0 : z.cps = #[] := Array.size_eq_zero_iff.mp (eq_of_beq h)
            show z = ⟨((List.replicate n z.cps.toList).flatten).toArray⟩
            rw [hz0]
            obtain ⟨c⟩ := z
            simp only at hz0
            subst hz0
            congr 1
            induction n with
            | zero => rfl
            | succ m ih =>
              rw [List.replicate_succ, List.flatten_cons]
              by_cases hm0 : m = 0
              · subst hm0; rfl
              · simp
        exact ⟨.str (times z n), H, I, ⟨t, by rw [← e]⟩, q⟩
      · rw [if_neg h1]
        refine fin _ ?_
        show (⟨_⟩ : Str) = ⟨_⟩
        congr 1
        apply Array.toList_inj.mp
        rw [Int.toNat_natCast, fold_rep]
        simp
end
end HX
/-! Own layer: a def's promise where nothing is being shown by repr around it (FnG), so that repr of lists and tuples can be read. -/
namespace HG
open PySem PySem.Spec PySem.Calls PyProof.Rows L2
/-- nothing is being shown -/
abbrev Shut (A : Around) : Prop := A.guards = some []
structure FnG (P : Program) (w : World) (K : PySem.W.Frag) (mg : Str → Option Value) (base : Heap) (CX : CXT) (k : Nat) (f : Addr) (fd : FuncData) (ps : List Str) (sp : Sp) : Prop where
  len : ∀ vs H Q E, sp vs H Q E → vs.length = ps.length
  go : ∀ (A : Around) (fr : List Env) (s : Shared) (H : Hp) (ar : Args) (us : List Value) (vs : List V) (Q : VK) (E : XK), Shut A → Room k A → Env0 P w K mg base A fr s H →
    BindsTo s fd ar (ps.zip us) → Vals vs us → sp vs H Q E → codeAny (model P w) A (.call (.ref f) ar) (CR CX fr P w H s Q E) s
section
variable {P : Program} {w : World} {K : PySem.W.Frag} {mg : Str → Option Value} {base : Heap} {CX : CXT} {j k : Nat} {f : Addr} {fd : FuncData} {ps : List Str} {sp sp' : Sp}
theorem FnG.of (F : FnOk P w K mg base CX k f fd ps sp) : FnG P w K mg base CX k f fd ps sp :=
  ⟨F.len, fun A fr s H ar us vs Q E _ hr e0 hb hv hs => F.run A fr s H ar us vs Q E hr e0 hb hv hs⟩
theorem FnG.mono (F : FnG P w K mg base CX j f fd ps sp) (h : j ≤ k) : FnG P w K mg base CX k f fd ps sp :=
  ⟨F.len, fun A fr s H ar us vs Q E g hr => F.go A fr s H ar us vs Q E g (hr.mono h)⟩
theorem FnG.imp (F : FnG P w K mg base CX k f fd ps sp) (h : ∀ vs H Q E, sp' vs H Q E → sp vs H Q E) : FnG P w K mg base CX k f fd ps sp' :=
  ⟨fun vs H Q E q => F.len vs H Q E (h _ _ _ _ q), fun A fr s H ar us vs Q E g hr e0 hb hv hs => F.go A fr s H ar us vs Q E g hr e0 hb hv (h _ _ _ _ hs)⟩
end
section
variable {X : Cx} {CX : CXT} {k : Nat} {f C : Addr} {fd : FuncData} {ps ks : List Str} {sp : Sp} {dvs : List V} {ds : List Value} {E : XK} {x m : Str} {p pos apos : Pos} {e o : Expr} {es : List Expr} {ta : TE} {t : TA} {kws : List Keyword} {tk : TA}
theorem go_fn {pins : List (Addr × Obj)} {σ : L2.St} {H : Hp} {s : Shared} {Q : VK} {us : List Value} {vs : List V} (F : FnG X.prog X.w X.K X.mg X.base CX k f fd ps sp) (sh : Shut X.A) (hr : Room k X.A) (hb : L2.Binds X.K fd ps ds) (hd : Vals dvs ds)
    (hx : Passes CX X E) (I : Inv X pins σ H s) (r : Vals vs us) (h : sp (vs ++ dvs) H Q E) : wpAny (model X.prog X.w) X.A (call (.ref f) us) (EP X pins σ Q) X.xe s := by
  have r2 : Vals (vs ++ dvs) (us ++ ds) := r.append hd
  have hl := r2.length.symm.trans (F.len _ _ _ _ h)
  have one := F.go X.A X.stack s H ⟨us, []⟩ (us ++ ds) (vs ++ dvs) Q E sh hr I.env0 (hb s us I.kIn hl) r2 h
  refine wpAny_call (codeAny_mono one fun res s' hq => ?_)
  match res, hq with
  | .error e, hq => exact hx pins σ H s e s' I hq
  | .ok (.ret u), hq => exact I.after hq
theorem pe_callG (F : FnG X.prog X.w X.K X.mg X.base CX k f fd ps sp) (sh : Shut X.A) (hr : Room k X.A) (hg : Gl X x) (hm : X.mg x = some (.ref f)) (hk : PySem.W.keepIn X.K (.ref f) = true) (hb : L2.Binds X.K fd ps ds) (hd : Vals dvs ds)
    (hx : Passes CX X E) (ha : PA X (e :: es) t) (hdb : (x == ("__debug__" : Str)) = false := by decide) (he : starEach (e :: es) X.env = (false, eval e X.env) :: starEach es X.env := by rfl)
    (hpl : (backTo pos (starEach es X.env)).any (·.1) = false := by rfl) : PE X (.Call (.Name x p) (e :: es) [] pos) (tCall sp dvs E t) := by
  constructor
  intro pins s σ H Q I h
  apply wpAny_Call_Name_kw
  apply ld_glob I hg hm _ hdb
  exact PySem.W.callWith_K (h₀ := X.base) I.ok.mod.kin hk (thn (ha.run pos pins s σ H _ I h) fun us s1 ⟨vs, H1, I1, r, q⟩ => ⟨I1.kIn, go_fn F sh hr hb hd hx I1 r q⟩) he hpl
theorem pe_callG0 (F : FnG X.prog X.w X.K X.mg X.base CX k f fd ps sp) (sh : Shut X.A) (hr : Room k X.A) (hg : Gl X x) (hm : X.mg x = some (.ref f)) (hk : PySem.W.keepIn X.K (.ref f) = true) (hb : L2.Binds X.K fd ps ds) (hd : Vals dvs ds)
    (hx : Passes CX X E) (hdb : (x == ("__debug__" : Str)) = false := by decide) : PE X (.Call (.Name x p) [] [] pos) (tCall sp dvs E tNil) := by
  constructor
  intro pins s σ H Q I h
  apply wpAny_Call_Name_kw
  apply ld_glob I hg hm _ hdb
  exact PySem.W.callWith_K0 I.kIn hk (go_fn (us := []) F sh hr hb hd hx I .nil h)
theorem pe_methG {pl : Sem Bool} (he : PE X o ta) (c : Cls X.K C) (hm : Meth X.K C m f) (F : FnG X.prog X.w X.K X.mg X.base CX k f fd ps sp) (sh : Shut X.A) (hr : Room k X.A) (hb : L2.Binds X.K fd ps ds) (hd : Vals dvs ds) (hx : Passes CX X E) (ha : PA X (e :: es) t)
    (hst : starEach (e :: es) X.env = (false, eval e X.env) :: starEach es X.env := by rfl) (hpl : (backTo pos (starEach es X.env)).any (·.1) = false := by rfl)
    (ht : eval (.Call (.Attribute o m apos) (e :: es) [] pos) X.env = (eval o X.env >>= fun ov => standAt apos.atName >>= fun _ => holding [ov] (getMethod ov m pl) >>= fun fa =>
      callWith pos fa.1 fa.2 (backTo pos (starEach (e :: es) X.env)) (backToKw pos (keywordEach [] X.env))) := by rfl) : PE X (.Call (.Attribute o m apos) (e :: es) [] pos) (tMeth C m sp dvs E ta t) := by
  constructor
  intro pins s σ H Q I h
  refine PySem.W.methodCall_KW (pl := pl) (thn (he.run pins s σ H _ I h) fun u s1 ⟨y, H1, I1, rx, a, dx, fs, ex, ea, l, q⟩ => ?_) ht
  subst ex
  have eu : u = Value.ref a := rx
  subst eu
  refine getmeth_ok I1 ea c hm l ?_
  exact PySem.W.callWith_K (first := [.ref a]) (h₀ := X.base) I.ok.mod.kin hm.kp (thn (ha.run pos pins s1 σ H1 _ I1 q) fun us s2 ⟨vs, H2, I2, r, q2⟩ => ⟨I2.kIn, go_fn (us := .ref a :: us) (vs := .ref a :: vs) F sh hr hb hd hx I2 (.cons rfl r) q2⟩) hst hpl
theorem pe_methG0 {pl : Sem Bool} (he : PE X o ta) (c : Cls X.K C) (hm : Meth X.K C m f) (F : FnG X.prog X.w X.K X.mg X.base CX k f fd ps sp) (sh : Shut X.A) (hr : Room k X.A) (hb : L2.Binds X.K fd ps ds) (hd : Vals dvs ds) (hx : Passes CX X E)
    (ht : eval (.Call (.Attribute o m apos) [] [] pos) X.env = (eval o X.env >>= fun ov => standAt apos.atName >>= fun _ => holding [ov] (getMethod ov m pl) >>= fun fa =>
      callWith pos fa.1 fa.2 (backTo pos (starEach [] X.env)) (backToKw pos (keywordEach [] X.env))) := by rfl) : PE X (.Call (.Attribute o m apos) [] [] pos) (tMeth C m sp dvs E ta tNil) := by
  constructor
  intro pins s σ H Q I h
  refine PySem.W.methodCall_KW (pl := pl) (thn (he.run pins s σ H _ I h) fun u s1 ⟨y, H1, I1, rx, a, dx, fs, ex, ea, l, q⟩ => ?_) ht
  subst ex
  have eu : u = Value.ref a := rx
  subst eu
  refine getmeth_ok I1 ea c hm l ?_
  exact PySem.W.callWith_K0 (first := [.ref a]) I1.kIn hm.kp (go_fn (us := [.ref a]) (vs := [.ref a]) F sh hr hb hd hx I1 (.cons rfl .nil) q)
end
section
variable {P : Program} {w : World} {K : PySem.W.Frag} {mg : Str → Option Value} {base : Heap}
/-- a def of the text: its body, nothing being shown around it -/
theorem okG {x qual : Str} {st : Stmt} {f : Addr} {fd : FuncData} {N ps : List Str} {k : Nat} {sp : Sp} {CX : CXT} (F : Fun K x qual st f fd) (S : FnScope N ps (defScope st)) (len : ∀ vs H Q E, sp vs H Q E → vs.length = ps.length)
    (body : ∀ (cdv : Value) (A : Around) (fr : List Env) (s : Shared) (H : Hp) (vs : List V) (Q : VK) (E : XK), Shut (A.deeper (envOfC qual (defScope st) s.heap.objs.size f cdv)) → Room k (A.deeper (envOfC qual (defScope st) s.heap.objs.size f cdv)) → sp vs H Q E →
      ∃ t, PSs (cxOf CX P w K mg base N qual (defScope st) f cdv A fr s H E) (defBody st) t ∧ t { nx := fun _ H' => Q .non H', rt := Q } (start N vs) H) : FnG P w K mg base CX (k + 1) f fd ps sp := by
  obtain ⟨oc, od, kV, doc, pm, an, cdv, ct, osl, rfl, lk, hcd⟩ := F.ex
  refine ⟨len, fun A fr s H ar us vs Q E sh hr e0 hb r hsp => ?_⟩
  have KX : K.In s.heap := e0.mod.kin.keeps fun b o e => (e0.bs b o e).1
  have lim : s.heap.NoLimit := e0.mod.nolimit.keeps fun b o e => (e0.bs b o e).1
  have kinds : ∀ y ∈ ps.zip us, (defScope st).names.lookup y.1 = some .local ∨ ((defScope st).names.lookup y.1 = some .cell ∧ ((cellsFrom (s.heap.objs.size + 1) (defScope st).names []).lookup y.1).isSome = true) := by
    rintro ⟨n, v⟩ hy
    exact (S.par n (List.of_mem_zip hy).1).imp id fun q => ⟨q, PySem.W.cellsFrom_some _ _ _ (.inl q)⟩
  refine codeAny_call_function hr.depth (KX _ _ lk) rfl S.co S.gen rfl (PySem.W.codeRec_of KX hcd) (hb _ _ _ _ ?_)
  refine wpAny_newFunctionEnv_cells S.kind kinds fun env he s1 y => ?_
  subst he
  refine ⟨lim.keeps y.toInCall.keep, codeAny_func ?_⟩
  obtain ⟨t, ht, hq⟩ := body cdv A fr s H vs Q E sh (hr.deeper _) hsp
  have I : Inv (cxOf CX P w K mg base N qual (defScope st) f cdv A fr s H E) [] (start N vs) H s1 := inv_start S hr.hd e0 (len _ _ _ _ hsp) r y
  refine wpAny_mono (ht.run [] s1 (start N vs) H _ I hq) (fun fl s' hs => ?_) fun _ _ hs => hs
  match fl, hs with
  | .ret u, ⟨v, _, H', J, rv, q⟩ => exact ⟨v, H', J.os, J.bare, J.base, J.hok, rv, q⟩
  | .next, ⟨_, H', J, q⟩ => exact ⟨V.non, H', J.os, J.bare, J.base, J.hok, rfl, q⟩
  | .brk, ⟨_, _, _, q⟩ => exact q.elim
  | .cont, ⟨_, _, _, q⟩ => exact q.elim
/-- .. where nothing is raised -/
theorem okGn {x qual : Str} {st : Stmt} {f : Addr} {fd : FuncData} {N ps : List Str} {k : Nat} {sp : Sp} {CX : CXT} (F : Fun K x qual st f fd) (S : FnScope N ps (defScope st)) (len : ∀ vs H Q E, sp vs H Q E → vs.length = ps.length)
    (body : ∀ (cdv : Value) (A : Around) (fr : List Env) (s : Shared) (H : Hp) (vs : List V) (Q : VK) (E : XK), Shut (A.deeper (envOfC qual (defScope st) s.heap.objs.size f cdv)) → Room k (A.deeper (envOfC qual (defScope st) s.heap.objs.size f cdv)) → sp vs H Q E →
      ∃ t, PSs (cxOf CX P w K mg base N qual (defScope st) f cdv A fr s H E).nox (defBody st) t ∧ t { nx := fun _ H' => Q .non H', rt := Q } (start N vs) H) : FnG P w K mg base CX (k + 1) f fd ps sp :=
  okG F S len fun cdv A fr s H vs Q E sh hr h => let ⟨t, h1, h2⟩ := body cdv A fr s H vs Q E sh hr h; ⟨t, h1.nox, h2⟩

end

/-- the law's own call, over what the top has left -/
theorem law_callG {P : Program} {w : World} {K : PySem.W.Frag} {mg mb : Str → Option Value} {CX : CXT} {k : Nat} {fa a : Addr} {fd : FuncData} {x : Str} {sp : Sp} {s₁ : Shared} {vs : List Value} {ns : List Int}
    (KX : K.In s₁.heap) (hns : s₁.heap.Ns mainGlobals mg) (hb : s₁.heap.Ns builtinsNs mb) (hbb : ∀ x : Str, x ≠ "__name__" → mb x = bootBuiltins x) (hlim : s₁.heap.NoLimit) (hg : s₁.gens = #[])
    (ha : s₁.heap.get? a = some { cls := .type "list", data := .seq vs.toArray }) (hi : IntsAre vs ns) (hl : ns.length ≤ sizeLine) (hr : Room k callerA)
    (F : ∀ base : Heap, K.In base → base.Ns mainGlobals mg → FnG P w K mg base CX k fa fd [x] sp) (hbind : ∀ (s : Shared) (u : Value), BindsTo s fd ⟨[u], []⟩ [(x, u)])
    (hsp : ∀ H : Hp, Only H → SqL K H a (ns.map V.int) → sp [.ref a] H (fun v _ => v = .bl true) fun _ _ _ => False) (hCX : ∀ H e s', CX [] H s₁ (fun _ _ _ => False) e s' → False) :
    codeAny (model P w) callerA (.call (.ref fa) ⟨[.ref a], []⟩) (fun r s' => r = .ok (.ret (.bool true)) ∧ OldK s₁.heap s'.heap ∧ s'.os = s₁.os ∧ AllBare s'.gens) s₁ := by
  have rv := vals_ints hi
  have lenV := hi.length
  have core : ∀ H : Hp, Only H → SqL K H a (ns.map V.int) → HOk P w H s₁.heap → (∀ b, H b ≠ none → b = a) → (H a ≠ none → K.lookup a = none) →
      codeAny (model P w) callerA (.call (.ref fa) ⟨[.ref a], []⟩) (fun r s' => r = .ok (.ret (.bool true)) ∧ OldK s₁.heap s'.heap ∧ s'.os = s₁.os ∧ AllBare s'.gens) s₁ := by
    intro H hO hS hok hA hK
    have dictless : ∀ {b : Addr} {o : Obj} {es : Array DictEntry} {ep : Nat}, s₁.heap.get? b = some o → o.data = .dict es ep → H b = none := by
      intro b o es ep e d
      match q : H b with
      | none => rfl
      | some u =>
        have e' := hA b (by rw [q]; simp)
        subst e'
        rw [ha] at e
        cases e
        exact absurd d (by simp)
    have nsK : ∀ {b : Addr} {m : Str → Option Value}, s₁.heap.Ns b m → (hidT s₁.heap H).Ns b m := fun ⟨o, es, ep, e, d, r⟩ => ⟨o, es, ep, hidT_get e (dictless e d), d, r⟩
    have hKb : K.In (hidT s₁.heap H) := by
      intro b o e
      refine hidT_get (KX b o e) ?_
      match q : H b with
      | none => rfl
      | some u =>
        have e' := hA b (by rw [q]; simp)
        subst e'
        rw [hK (by rw [q]; simp)] at e
        cases e
    obtain ⟨mc, lim1, lim2⟩ := hlim
    have e0 : Env0 P w K mg (hidT s₁.heap H) callerA [] s₁ H :=
      ⟨rfl, ⟨hKb, nsK hns, ⟨mb, nsK hb, hbb⟩, ⟨mc, nsK lim1, lim2⟩⟩, fun _ _ e => of_hidT e, Nat.le_of_eq (hidT_size _ _), trivial, fun b z => absurd (show b ∈ ([] : List Addr) from z) (by simp), hok, .of_eq hg⟩
    refine codeAny_mono ((F _ hKb (nsK hns)).go callerA [] s₁ H ⟨[.ref a], []⟩ [.ref a] [.ref a] _ _ rfl hr e0 (hbind s₁ (.ref a)) (.cons rfl .nil) (hsp H hO hS)) fun r s' h => ?_
    match r, h with
    | .error e, h => exact (hCX H e s' h).elim
    | .ok (.ret u), ⟨v, H', os, bare, un, hok', r', q⟩ =>
      have q' : v = .bl true := q
      subst q'
      have eu : u = Value.bool true := r'
      subst eu
      refine ⟨rfl, OldK.of_keep fun b o e => ?_, os, bare⟩
      match q : H b with
      | none => exact un.keep b o e q (fun z => absurd (show b ∈ ([] : List Addr) from z) (by simp)) (by simp)
      | some u =>
        rcases hO b with z | ⟨ob, xs, z⟩
        · rw [q] at z
          cases z
        · have e1 := (hok b _ z).1
          have e2 := (hok' b _ (un.frzs b ob _ z)).1
          rw [e] at e1
          cases e1
          exact e2
  match hk : K.lookup a with
  | some o =>
    have e := KX a o hk
    rw [ha] at e
    cases e
    exact core (fun _ => none) (fun _ => .inl rfl) (.inr ⟨_, vs.toArray, _, hk, rfl, rfl, rfl, by rw [List.size_toArray, lenV]; exact hl, by simpa using rv⟩) (fun b u z => by have z' : (none : Option HO) = some u := z; cases z') (fun b z => absurd rfl z) fun z => absurd rfl z
  | none =>
    have at_a : ∀ b, b = a → (fun c => if c = a then some (HO.frz { cls := .type "list", data := .seq vs.toArray } (.lst (ns.map V.int))) else none : Hp) b = some (.frz { cls := .type "list", data := .seq vs.toArray } (.lst (ns.map V.int))) := fun b hb => if_pos hb
    have off_a : ∀ b, b ≠ a → (fun c => if c = a then some (HO.frz { cls := .type "list", data := .seq vs.toArray } (.lst (ns.map V.int))) else none : Hp) b = none := fun b hb => if_neg hb
    refine core (fun c => if c = a then some (HO.frz { cls := .type "list", data := .seq vs.toArray } (.lst (ns.map V.int))) else none) (fun b => ?_) (.inl (.inr ⟨_, at_a a rfl⟩)) (fun b u z => ?_) (fun b z => ?_) fun _ => hk
    · by_cases hb : b = a
      · exact .inr ⟨_, _, at_a b hb⟩
      · exact .inl (off_a b hb)
    · by_cases hb : b = a
      · rw [at_a b hb] at z
        cases z
        subst hb
        exact ⟨ha, by rw [List.length_map]; exact hl, vs, _, rv, ha⟩
      · rw [off_a b hb] at z
        cases z
    · by_cases hb : b = a
      · exact hb
      · exact absurd (off_a b hb) z
theorem walk_ofG {l : PySem.W.OpenLaw} {n k : Nat} {q : Program} {loose : List Str} {XP : (Str → Option Value) → Heap → Prop} {YP : World → Heap → Prop} {d : DefRec} {K : Params → PySem.W.Frag} {CX : World → CXT} {sp : World → Sp} {x : Str}
    (hn : l.most = some n) (hn2 : n ≤ sizeLine) (hdf : d.params.defaults = []) (hr : Room k callerA) (hY : ∀ (w : World) (h : Heap), YP w h → (K w.params).In h)
    (F : ∀ (w : World) (mg : Str → Option Value) (fa : Addr) (h : Heap), (K w.params).In h → h.Ns mainGlobals mg → mg d.name = some (.ref fa) →
      ∃ fd : FuncData, (∀ (s : Shared) (u : Value), BindsTo s fd ⟨[u], []⟩ [(x, u)]) ∧ ∀ base : Heap, (K w.params).In base → base.Ns mainGlobals mg → FnG l.prog w (K w.params) mg base (CX w) k fa fd [x] (sp w))
    (hsp : ∀ (w : World) (H : Hp) (a : Addr) (ns : List Int), ns.length ≤ n → Only H → SqL (K w.params) H a (ns.map V.int) → sp w [.ref a] H (fun v _ => v = .bl true) fun _ _ _ => False)
    (hCX : ∀ (w : World) (H : Hp) (s : Shared) (e : Value) (s' : Shared), CX w [] H s (fun _ _ _ => False) e s' → False) : PySem.W.WalkO q loose XP YP l.row.toRowW d [] (fun f vs => PySem.call f vs) := by
  refine Att.attach_call hn hdf ?_
  intro w s₀ s₁ mg mb fa o pm cd doc a vs ns G Y _ _ _ hmg hobj hints hlen hg
  obtain ⟨fd, hb, hF⟩ := F w mg fa _ (hY w _ Y) G.T.g hmg
  exact law_callG (hY w _ Y) G.T.g G.T.b G.T.builtins G.T.nolimit hg hobj hints (Nat.le_trans hlen hn2) hr hF hb (fun H hO hS => hsp w H a ns hlen hO hS) (hCX w · s₁ · ·)
/-! ### repr of data -/
def rRepr (K : PySem.W.Frag) : List V → Hp → VK → Prop := fun vs H Q => ∃ (x : V) (d : PyData), vs = [x] ∧ Dp K H x d ∧ isDisplay d = true ∧ d.showable = true ∧ d.hasDict = false ∧ d.depth ≤ 60 ∧ d.shown.length ≤ sizeLine ∧ Q (.str d.shown) H
section
variable {X : Cx}
theorem call_reprD (sh : Shut X.A) (hu : X.A.units + 64 < cLine) : CallR X (.builtin "repr") (rRepr X.K) := by
  intro pins s σ H vs us Q I r h
  obtain ⟨x, d, rfl, hd, di, sw, nd, dep, len, q⟩ := h
  obtain ⟨u, rfl, rx⟩ := vals1 r
  obtain ⟨as, r1⟩ := Dp.reads I d x u hd rx
  obtain ⟨a, rfl⟩ := isRef_of_reads r1 di
  exact repr_of_reads' r1 sw (PyData.noDict_hsm nd) sh (by omega) (fun _ _ e => e) (fun h' u tk hk => ⟨.str d.shown, H, I.kept hk, ⟨u, rfl⟩, q⟩) len
end
end HG
/-! Own short words. -/
namespace HB
open PySem PySem.Spec PyProof.Rows L2
/-- a def of the top, bound under its name -/
structure Df (K : PySem.W.Frag) (mg : Str → Option Value) (nm qual : Str) (st : Stmt) (ps : List Str) (f : Addr) (fd : FuncData) : Prop where
  F : Fun K nm qual st f fd
  b : L2.Binds K fd ps []
  g : mg nm = some (.ref f)
section
variable {X : Cx} {k : Nat} {f : Addr} {fd : FuncData} {ps : List Str} {sp : Sp} {x qual : Str} {st : Stmt} {p pos : Pos} {e : Expr} {es : List Expr} {t : TA}
theorem pcall (D : Df X.K X.mg x qual st ps f fd) (G : FnOk X.prog X.w X.K X.mg X.base CX0 k f fd ps sp) (hr : Room k X.A) (hg : Gl X x) (ha : PA X (e :: es) t) (hdb : (x == ("__debug__" : Str)) = false := by decide)
    (he : starEach (e :: es) X.env = (false, eval e X.env) :: starEach es X.env := by rfl) (hpl : (backTo pos (starEach es X.env)).any (·.1) = false := by rfl) : PE X (.Call (.Name x p) (e :: es) [] pos) (tCall sp [] E0 t) :=
  pe_call G hr hg D.g D.F.kp D.b .nil pass0 ha hdb he hpl
theorem pcall0 (D : Df X.K X.mg x qual st ps f fd) (G : FnOk X.prog X.w X.K X.mg X.base CX0 k f fd ps sp) (hr : Room k X.A) (hg : Gl X x) (hdb : (x == ("__debug__" : Str)) = false := by decide) : PE X (.Call (.Name x p) [] [] pos) (tCall sp [] E0 tNil) :=
  pe_call0 G hr hg D.g D.F.kp D.b .nil pass0 hdb
theorem gcall (D : Df X.K X.mg x qual st ps f fd) (G : HG.FnG X.prog X.w X.K X.mg X.base CX0 k f fd ps sp) (sh : HG.Shut X.A) (hr : Room k X.A) (hg : Gl X x) (ha : PA X (e :: es) t) (hdb : (x == ("__debug__" : Str)) = false := by decide)
    (he : starEach (e :: es) X.env = (false, eval e X.env) :: starEach es X.env := by rfl) (hpl : (backTo pos (starEach es X.env)).any (·.1) = false := by rfl) : PE X (.Call (.Name x p) (e :: es) [] pos) (tCall sp [] E0 t) :=
  HG.pe_callG G sh hr hg D.g D.F.kp D.b .nil pass0 ha hdb he hpl
/-- a written text or number of the module -/
theorem pe_gs {z : Str} (hg : Gl X x) (hm : ∃ t : Tok, X.mg x = some (.str z t)) (hdb : (x == ("__debug__" : Str)) = false := by decide) : PE X (.Name x pos) (tC (.str z)) := let ⟨t, h⟩ := hm; pe_glob hg h ⟨t, rfl⟩ (hd := hdb)
theorem pe_gi {i : Int} (hg : Gl X x) (hm : ∃ t : Tok, X.mg x = some (.int i t)) (hdb : (x == ("__debug__" : Str)) = false := by decide) : PE X (.Name x pos) (tC (.int i)) := let ⟨t, h⟩ := hm; pe_glob hg h ⟨t, rfl⟩ (hd := hdb)
theorem pe_gr {a : Addr} (hg : Gl X x) (hm : X.mg x = some (.ref a)) (hdb : (x == ("__debug__" : Str)) = false := by decide) : PE X (.Name x pos) (tC (.ref a)) := pe_glob hg hm rfl (hd := hdb)
end
/-! ### heaps -/
theorem same_upd {H : Hp} {p : Addr} {o : HO} (h : H p = none) : Same H (upd H p o) := fun b x e => by
  rw [upd_ne (ne_of_none e h)]
  exact e
theorem _root_.L2.Same.sqt {K : PySem.W.Frag} {H H' : Hp} {a : Addr} {xs : List V} (e : Same H H') (h : SqT K H a xs) : SqT K H' a xs := Evl.ex_t e h
theorem _root_.L2.Same.own {H H' : Hp} {D : Addr} {o : HO} (e : Same H H') (n : H D = none) : Same H (upd H' D o) := fun b x hb => by
  rw [upd_ne (ne_of_none hb n)]
  exact e _ _ hb
theorem sl {K : PySem.W.Frag} {H : Hp} {a : Addr} {xs : List V} (h : H a = some (.lst xs)) : SqL K H a xs := .inl (.inl h)
theorem stt {K : PySem.W.Frag} {H : Hp} {a : Addr} {xs : List V} (h : H a = some (.tup xs)) : SqT K H a xs := .inl (.inl h)
theorem ite1 {b : Bool} {A B : Prop} (e : b = true) (h : A) : if b = true then A else B := by rw [if_pos e]; exact h
theorem ite0 {b : Bool} {A B : Prop} (e : b = false) (h : B) : if b = true then A else B := by rw [if_neg (by rw [e]; decide)]; exact h
mutual
theorem _root_.L2.Same.dp {K : PySem.W.Frag} {H H' : Hp} (e : Same H H') : ∀ {v : V} {d : PyData}, Dp K H v d → Dp K H' v d
  | _, _, .non => .non
  | _, _, .bl b => .bl b
  | _, _, .int i => .int i
  | _, _, .str x => .str x
  | _, _, .lst h k => .lst (e.seq h) (L2.Same.dpAll e k)
  | _, _, .tup h k => .tup (L2.Same.sqt e h) (L2.Same.dpAll e k)
theorem _root_.L2.Same.dpAll {K : PySem.W.Frag} {H H' : Hp} (e : Same H H') : ∀ {vs : List V} {ds : List PyData}, DpAll K H vs ds → DpAll K H' vs ds
  | _, _, .nil => .nil
  | _, _, .cons h k => .cons (L2.Same.dp e h) (L2.Same.dpAll e k)
end
/-! ### a def that calls itself: by the depth -/
section
variable {P : Program} {w : World} {K : PySem.W.Frag} {mg : Str → Option Value} {base : Heap} {CX : CXT} {f : Addr} {fd : FuncData} {ps : List Str}
def spR (sp : Nat → Sp) : Nat → Sp
  | 0 => fun _ _ _ _ => False
  | n + 1 => sp n
theorem rec_fn {sp : Nat → Sp} {c : Nat} (step : ∀ n, FnOk P w K mg base CX (n + c) f fd ps (spR sp n) → FnOk P w K mg base CX (n + c + 1) f fd ps (sp n)) : ∀ n, FnOk P w K mg base CX (n + c + 1) f fd ps (sp n)
  | 0 => step 0 ⟨fun _ _ _ _ h => h.elim, fun _ _ _ _ _ _ _ _ _ _ _ _ _ h => h.elim⟩
  | n + 1 => step (n + 1) (by
    have h := rec_fn step n
    rwa [show n + c + 1 = n + 1 + c by omega] at h)
end
end HB
namespace HX
open PySem PySem.Spec PySem.Calls PyProof.Rows L2
/-- d.update(e) of another dict -/
def tDUpd (td te : TE) : TE := fun σ H Q => td σ H fun x H1 => ∃ a, x = .ref a ∧ IsD H1 a ∧ te σ H1 fun y H2 => ∃ (b : Addr) (kvs more : List (Key × V)), y = .ref b ∧ a ≠ b ∧ H2 a = some (.dK kvs) ∧ H2 b = some (.dK more) ∧
  kvs.length + more.length ≤ sizeLine ∧ Q .non (upd H2 a (.dK (mergeK kvs more)))
section
variable {X : Cx} {o e : Expr} {td te : TE} {apos cpos : Pos}
theorem pe_dupd (ho : PE X o td) (he : PE X e te) (m : M1 X o "update" apos e cpos) : PE X (.Call (.Attribute o "update" apos) [e] [] cpos) (tDUpd td te) := by
  refine ⟨fun pins s σ H Q I h => ?_⟩
  refine wpAny_Call_method m.base m.few m.line PySem.F.plainAttrs_dict PySem.F.slot_dict_update PySem.F.type_dict_update (thn (ho.run pins s σ H _ I h) fun u s1 ⟨x, H1, I1, rx, a, ex, d, q1⟩ => ?_)
  subst ex
  obtain rfl : u = Value.ref a := rx
  obtain ⟨t1, t2, _⟩ := isD_at I1 d
  refine ⟨t1, t2, ?_⟩
  rw [m.trees]
  refine Calls.callWith_builtin rfl (Calls.evalArgs_plain (Calls.spliced_cons (thn (he.run pins s1 σ H1 _ I1 q1) fun iv s2 ⟨y, H2, I2, ry, b, kvs, more, ey, hab, ea, eb, hl, q⟩ => Calls.spliced_nil ?_)))
  subst ey
  obtain rfl : iv = Value.ref b := ry
  obtain ⟨za, ya, vs, rel, da⟩ := dk_of I2.hok ea
  obtain ⟨zb, yb, us, rel2, db⟩ := dk_of I2.hok eb
  have e1 := rel.length
  have e2 := rel2.length
  refine call_meetsIn PySem.F.slot_dict_update da.typeIs PySem.F.entry_dict_update (PySem.F.args_dict_update_2 _ _) (meets_dict_update (mixKind X.prog X.w) a b hab yb)
    ⟨vs, us, da, db, by omega, fun h' dd' _ hs => ?_⟩
  have hl2 : (mergeK kvs more).length ≤ sizeLine := Nat.le_trans (length_mergeK more kvs) hl
  have hex : ∃ q, h'.get? a = some q := let ⟨q, _, _, hq, _⟩ := dd'; ⟨q, hq⟩
  exact ⟨.non, _, d_write (t' := s2.toks) I2 (by rw [ea]; exact True.intro) hs hex (dk_new hl2 ya (KV.merge rel2 rel) dd'), rfl, q⟩
end
end HX
/-! sum(lists, []) -/
namespace HX
open PySem PySem.Spec PySem.Calls PyProof.Rows L2
open Sem (wp)
abbrev lo (its : List Value) (n : Nat) : Obj := { cls := .type "list", data := .seq its.toArray n }
section
variable {prog : Program} {w : World} {A : Around} {R : Result → Shared → Prop}
/-- the places of lists, and what they hold -/
inductive Lists (h : Heap) : List Addr → List (List Value) → Prop
  | nil : Lists h [] []
  | cons {b : Addr} {its : List Value} {n : Nat} {bs : List Addr} {xs : List (List Value)} : h.get? b = some (lo its n) → Lists h bs xs → Lists h (b :: bs) (its :: xs)
theorem Lists.keeps {h h' : Heap} {bs : List Addr} {xs : List (List Value)} (L : Lists h bs xs) (k : ∀ b o, b ∈ bs → h.get? b = some o → h'.get? b = some o) : Lists h' bs xs := by
  induction L with
  | nil => exact .nil
  | cons e _ ih => exact .cons (k _ _ (List.mem_cons_self ..) e) (ih fun b o hb => k b o (List.mem_cons_of_mem _ hb))
theorem sum_loop (hh : A.handled = none) (I l S : Addr) (all : List Addr) (hIl : l ≠ I) (hSI : S ≠ I) (hSl : S ≠ l) :
    ∀ (bs : List Addr) (xs : List (List Value)) (pre : List Addr) (s : Shared) (T : Addr) (acc : List Value) (m c : Nat) (N : Nat), all = pre ++ bs → N ≤ s.heap.objs.size → I ∉ bs → S ∉ bs →
      s.heap.IsListIter I l pre.length → s.heap.IsList l (all.map Value.ref).toArray → Lists s.heap bs xs → s.heap.get? S = some { cls := .type "list", dict := none, data := .seq #[.ref T] c, slots := #[] } → s.heap.get? T = some (lo acc m) →
      T ≠ S → T ≠ I → (acc ++ xs.flatten).length ≤ sizeLine →
      (∀ (h' : Heap) (T' : Addr) (m' : Nat), (∀ b o, b ≠ I → b ≠ S → s.heap.get? b = some o → h'.get? b = some o) → ((bs = [] ∧ T' = T) ∨ N ≤ T') → h'.get? T' = some (lo (acc ++ xs.flatten) m') → R (.ok (.ret (.ref T'))) { s with heap := h' }) →
      codeAny (model prog w) A (.builtin "sum.loop" ⟨[.ref I, .ref S, rawInt 2, rawInt 0], []⟩) R s := by
  intro bs
  induction bs with
  | nil =>
    intro xs pre s T acc m c N hall hN hI hS hit hl hL hSo hTo hTS hTI hz hR
    cases hL
    refine codeAny_builtin F.entry_sum_loop ?_
    rw [Around.under_plainId F.plain_sum_loop _]
    show wpAny _ A.in1 (seqItems? (.ref S) >>= _) _ _ s
    refine wpAny_bind (wpAny_seqItems hSo rfl ?_)
    show wpAny _ A.in1 (tryCatch (pyNext (.ref I)) _ >>= _) _ _ s
    refine wpAny_bind (wpAny_tryCatch (wpAny_pyNext_list_end hh hit hl (by rw [hall]; simp) fun h' he => ?_))
    refine wpAny_pure (hR h' T m (fun b o hb _ e => he b o hb e) (.inl ⟨rfl, rfl⟩) ?_)
    simpa using he T _ hTI hTo
  | cons b bs ih =>
    intro xs pre s T acc m c N hall hN hI hS hit hl hL hSo hTo hTS hTI hz hR
    cases hL with
    | cons hb hL =>
    rename_i its n xs
    refine codeAny_builtin F.entry_sum_loop ?_
    rw [Around.under_plainId F.plain_sum_loop _]
    show wpAny _ A.in1 (seqItems? (.ref S) >>= _) _ _ s
    refine wpAny_bind (wpAny_seqItems hSo rfl ?_)
    show wpAny _ A.in1 (tryCatch (pyNext (.ref I)) _ >>= _) _ _ s
    refine wpAny_bind (wpAny_tryCatch (wpAny_pyNext_list_item hit hl (x := .ref b) (by rw [hall]; simp) fun h' hit' hs' => ?_))
    have bI : b ≠ I := fun z => hI (by rw [z]; exact List.mem_cons_self ..)
    have bS : b ≠ S := fun z => hS (by rw [z]; exact List.mem_cons_self ..)
    have hI' : I ∉ bs := fun z => hI (List.mem_cons_of_mem _ z)
    have hS' : S ∉ bs := fun z => hS (List.mem_cons_of_mem _ z)
    have eT : h'.get? T = some (lo acc m) := (hs'.2 T hTI).trans hTo
    have eb : h'.get? b = some (lo its n) := (hs'.2 b bI).trans hb
    have eS := (hs'.2 S hSI).trans hSo
    have size1 : (acc ++ its).length ≤ sizeLine := by
      simp only [List.flatten_cons, List.length_append] at hz ⊢
      omega
    show wpAny _ A.in1 ((holding [Value.ref b] (binaryOp .Add (.ref T) (.ref b))).attempt >>= _) _ _ _
    refine wpAny_bind (wpAny_attempt (wpAny_holding (PySem.P.add_list eT eb ?_ (by rw [List.size_toArray, List.size_toArray, ← List.length_append]; exact size1))))
    have ea : acc.toArray ++ its.toArray = (acc ++ its).toArray := by simp
    rw [ea]
    have eS2 : (h'.push (lo (acc ++ its) 0)).get? S = some { cls := .type "list", dict := none, data := .seq #[.ref T] c, slots := #[] } := Heap.get?_push_of_some _ eS
    show wpAny _ A.in1 (updateSeq S (fun _ => #[.ref h'.objs.size]) >>= _) _ _ _
    refine wpAny_bind (wpAny_updateSeq eS2 rfl ?_)
    refine wpAny_bind (wpAny_letGo ?_)
    have T1 : h'.objs.size ≠ S := Ne.symm (Nat.ne_of_lt (Heap.lt_size eS))
    have T2 : h'.objs.size ≠ I := Ne.symm (Nat.ne_of_lt (by obtain ⟨_, e, _⟩ := hit'; exact Heap.lt_size e))
    have eS3 := Heap.get?_update_self (Obj.mapSeq fun _ => #[Value.ref h'.objs.size]) eS2 rfl
    have kept : ∀ b o, b ≠ S → h'.get? b = some o → (((h'.push (lo (acc ++ its) 0)).update S (Obj.mapSeq fun _ => #[Value.ref h'.objs.size])).update S (Obj.mapSeq fun _ => #[Value.ref h'.objs.size])).get? b = some o := fun b o h1 e =>
      (Heap.get?_update_other _ _ (Ne.symm h1)).trans ((Heap.get?_update_other _ _ (Ne.symm h1)).trans (Heap.get?_push_of_some _ e))
    show wpAny _ A.in1 (updateSeq S (fun _ => #[.ref h'.objs.size]) >>= _) _ _ _
    refine wpAny_bind (wpAny_updateSeq eS3 rfl ?_)
    refine wpAny_pure ⟨plainId_quiet F.plain_sum_loop _, ih xs (pre ++ [b]) _ h'.objs.size (acc ++ its) 0 _ N (by rw [hall]; simp) ?_ hI' hS' ?_ ?_ ?_ (Heap.get?_update_self _ eS3 rfl) ?_ T1 T2 (by simpa using hz) ?_⟩
    · rw [Heap.size_update, Heap.size_update, Heap.size_push, hs'.1]; omega
    · rw [List.length_append]
      exact hit'.at fun o e => kept _ _ (Ne.symm hSI) e
    · exact hl.at fun o e => kept _ _ (Ne.symm hSl) ((hs'.2 l hIl).trans e)
    · exact hL.keeps fun b o hb e => kept _ _ (fun z => hS' (z ▸ hb)) ((hs'.2 b (fun z => hI' (z ▸ hb))).trans e)
    · exact (Heap.get?_update_other _ _ (Ne.symm T1)).trans ((Heap.get?_update_other _ _ (Ne.symm T1)).trans (Heap.get?_push_size _ rfl))
    · intro h2 T' m' k hN' e
      refine hR h2 T' m' (fun b o h1 h3 eo => k b o h1 h3 (kept b o h3 ((hs'.2 b h1).trans eo))) (.inr ?_) (by simpa using e)
      rcases hN' with ⟨_, rfl⟩ | hN'
      · rw [hs'.1]; exact hN
      · exact hN'
end
theorem args_sum2 (a b : Value) : argsOk "sum" ⟨[a, b], []⟩ := by unfold argsOk; kernel_rfl
section
variable {X : Cx}
theorem vals_refs : ∀ {bs : List Addr} {us : List Value}, Vals (bs.map V.ref) us → us = bs.map Value.ref := fun h => refs_at h
/-- sum(lists, z): some new list -/
def rSumL (K : PySem.W.Frag) : List V → Hp → VK → Prop := fun vs H Q => ∃ (l z : Addr) (bs : List Addr) (xss : List (List V)), vs = [.ref l, .ref z] ∧ H l = some (.lst (bs.map V.ref)) ∧ H z = some (.lst []) ∧ bs ≠ [] ∧
  Paired (fun b xs => H b = some (.lst xs)) bs xss ∧ xss.flatten.length ≤ sizeLine ∧ ∀ p, H p = none → Q (.ref p) (upd H p (.lst xss.flatten))
theorem lists_of {P : Program} {w : World} {H : Hp} {h : Heap} (ok : HOk P w H h) : ∀ {bs : List Addr} {xss : List (List V)}, Paired (fun b xs => H b = some (.lst xs)) bs xss → ∃ its : List (List Value), Lists h bs its ∧ Vals xss.flatten its.flatten
  | _, _, .nil => ⟨[], .nil, .nil⟩
  | _, _, .cons e t => by
    obtain ⟨its, L, r⟩ := lists_of ok t
    obtain ⟨_, it, n, rv, eo⟩ := ok _ _ e
    exact ⟨it :: its, .cons eo L, by rw [List.flatten_cons, List.flatten_cons]; exact rv.append r⟩
theorem call_sumL (hcalm : X.calm = true) : CallR X (.builtin "sum") (rSumL X.K) := by
  intro pins s σ H vs us Q I r h
  obtain ⟨l, z, bs, xss, rfl, hl, hz, hne, hp, hsz, q⟩ := h
  obtain ⟨u1, u2, rfl, r1, r2⟩ := vals2 r
  cases r1
  cases r2
  obtain ⟨_, it, n, rv, hll, el⟩ := I.lstM hl
  obtain ⟨_, itz, nz, rz, hlz, ez⟩ := I.lstM hz
  have e1 := refs_at rv
  subst e1
  cases rz
  obtain ⟨its, L, rvs⟩ := lists_of I.hok hp
  refine call_function_tree F.kind_sum F.plain_sum F.entry_sum (args_sum2 _ _) ?_
  unfold Builtin.«sum»
  simp only [List.length_cons, List.length_nil]
  rw [if_neg (by decide)]
  refine wpAny_bind (wpAny_of_eq (show Builtin.Builtins.bindParams "sum" ["start"] 0 ⟨[.ref z], []⟩ = pure [some (.ref z)] from rfl) ?_)
  have hL : s.heap.IsList l (bs.map Value.ref).toArray := ⟨_, el, rfl, n, rfl⟩
  refine wpAny_bind (wpAny_pyIter_list hL ?_)
  refine wpAny_bind (wpAny_pure ?_)
  simp only [List.forIn_cons, List.forIn_nil]
  have ez2 : ({ s with heap := s.heap.push { cls := .type "list_iterator", data := .fields #[.ref l, .int 0 0] } } : Shared).TypeIs (.ref z) "list" := ⟨_, Heap.get?_push_of_some _ ez, rfl⟩
  refine wpAny_bind (wpAny_bind (wpAny_bind (wpAny_isInstance (T := "list") (b := false) ez2 F.sub_list_str ?_)))
  simp only [Bool.false_eq_true, if_false]
  refine wpAny_pure (wpAny_bind (wpAny_bind (wpAny_isInstance (T := "list") (b := false) ez2 F.sub_list_bytes ?_)))
  simp only [Bool.false_eq_true, if_false]
  refine wpAny_pure (wpAny_bind (wpAny_bind (wpAny_isInstance (T := "list") (b := false) ez2 F.sub_list_bytearray ?_)))
  simp only [Bool.false_eq_true, if_false]
  refine wpAny_pure (wpAny_pure ?_)
  refine wpAny_bind (wpAny_newObj_type ?_)
  have zl : z < s.heap.objs.size := Heap.lt_size ez
  have ll : l < s.heap.objs.size := Heap.lt_size el
  have sz1 : (s.heap.push { cls := .type "list_iterator", data := .fields #[.ref l, .int 0 0] }).objs.size = s.heap.objs.size + 1 := Heap.size_push ..
  have bl : ∀ b ∈ bs, b < s.heap.objs.size := fun b hb => by
    have : ∀ {cs : List Addr} {ys : List (List Value)}, Lists s.heap cs ys → ∀ c ∈ cs, c < s.heap.objs.size := fun {cs ys} L => by
      induction L with
      | nil => intro c hc; cases hc
      | cons e _ ih =>
        intro c hc
        rcases List.mem_cons.mp hc with rfl | hc
        · exact Heap.lt_size e
        · exact ih c hc
    exact this L b hb
  refine wpAny_pure ⟨plainId_quiet F.plain_sum_loop _, ?_⟩
  dsimp only
  rw [sz1]
  refine sum_loop (I.ok.hd hcalm) s.heap.objs.size l (s.heap.objs.size + 1) bs (Nat.ne_of_lt ll) (Nat.succ_ne_self _) (Nat.ne_of_lt (Nat.lt_succ_of_lt ll)).symm bs its [] _ z [] nz 0 s.heap.objs.size rfl ?_ (fun hb => Nat.lt_irrefl _ (bl _ hb)) (fun hb => Nat.lt_irrefl _ (Nat.lt_trans (Nat.lt_succ_self _) (bl _ hb))) ?_ ?_ ?_ ?_ ?_ (Nat.ne_of_lt (Nat.lt_succ_of_lt zl)) (Nat.ne_of_lt zl) ?_ ?_
  · show s.heap.objs.size ≤ ((s.heap.push _).push _).objs.size
    rw [Heap.size_push, sz1]
    exact Nat.le_trans (Nat.le_succ _) (Nat.le_succ _)
  · exact ⟨_, Heap.get?_push_of_some _ (Heap.get?_push_size _ rfl), rfl, rfl⟩
  · exact hL.at fun o e => Heap.get?_push_of_some _ (Heap.get?_push_of_some _ e)
  · exact L.keeps fun b o _ e => Heap.get?_push_of_some _ (Heap.get?_push_of_some _ e)
  · have := Heap.get?_push_size (s.heap.push { cls := .type "list_iterator", data := .fields #[.ref l, .int 0 0] }) (o := { cls := .type "list", data := .seq #[.ref z] }) rfl
    rwa [sz1] at this
  · exact Heap.get?_push_of_some _ (Heap.get?_push_of_some _ ez)
  · rw [List.nil_append, ← rvs.length]; exact hsz
  · intro h' T' m' k hN e
    rcases hN with ⟨z, _⟩ | hN
    · exact absurd z hne
    · rw [List.nil_append] at e
      refine ⟨.ref T', upd H T' (.lst xss.flatten), I.laid (t' := s.toks) (fun b u eb => k b u (Nat.ne_of_lt (Heap.lt_size eb)) (Nat.ne_of_lt (Nat.lt_succ_of_lt (Heap.lt_size eb))) (Heap.get?_push_of_some _ (Heap.get?_push_of_some _ eb))) hN ⟨hsz, its.flatten, m', rvs, e⟩, rfl, q _ (I.hok.fresh hN)⟩
end
end HX
/-! draws kept in a list of three ints; what stands beside them -/
namespace HU
open PySem PySem.Spec PyProof.Rows L2 HB TL
abbrev dr (x y z : Int) : HO := .lst [.int x, .int y, .int z]
/-- the draws stand at d, n of them drawn at most -/
def DL (H : Hp) (d : Addr) (n : Nat) : Prop := ∃ x y z : Int, H d = some (dr x y z) ∧ 0 ≤ z ∧ z ≤ n
/-- all but d stand -/
def U1 (d : Addr) (H H' : Hp) : Prop := ∀ b o, H b = some o → b ≠ d → H' b = some o
section
variable {d : Addr} {H H' H'' : Hp} {K : PySem.W.Frag} {n m : Nat}
theorem U1.refl (H : Hp) : U1 d H H := fun _ _ h _ => h
theorem U1.trans (a : U1 d H H') (b : U1 d H' H'') : U1 d H H'' := fun x o h h1 => b x o (a x o h h1) h1
theorem U1.of (s : Same H H') : U1 d H H' := fun b o h _ => s b o h
theorem U1.set (u : U1 d H H') {o : HO} : U1 d H (upd H' d o) := fun x y h h1 => by
  rw [upd_ne h1]
  exact u x y h h1
theorem U1.own (u : U1 d H H') {b : Addr} {o : HO} (n : H b = none) : U1 d H (upd H' b o) := fun x y h h1 => by
  rw [upd_ne (ne_of_none h n)]
  exact u x y h h1
theorem DL.same (D : DL H d n) (s : Same H H') : DL H' d n := let ⟨x, y, z, h, r⟩ := D; ⟨x, y, z, s _ _ h, r⟩
theorem DL.mono (D : DL H d n) (h : n ≤ m) : DL H d m := let ⟨x, y, z, h1, h2, h3⟩ := D; ⟨x, y, z, h1, h2, by omega⟩
theorem DL.set (D : DL H d n) {b : Addr} {o : HO} (hb : b ≠ d) : DL (upd H b o) d n := let ⟨x, y, z, h, r⟩ := D; ⟨x, y, z, by rw [upd_ne hb.symm]; exact h, r⟩
theorem DL.apart (D : DL H d n) {b : Addr} (h : H b = none) : b ≠ d := let ⟨_, _, _, h1, _⟩ := D; (ne_of_none h1 h).symm
theorem DL.ne (D : DL H d n) {b : Addr} {o : HO} (h : H b = some o) (ho : ∀ xs, o ≠ .lst xs) : b ≠ d := by
  rintro rfl
  obtain ⟨x, y, z, h1, _⟩ := D
  rw [h] at h1
  exact ho _ (Option.some.inj h1)
/-- tuples stand -/
theorem U1.sqt (u : U1 d H H') (D : DL H d n) {a : Addr} {xs : List V} (h : SqT K H a xs) : SqT K H' a xs := by
  rcases h with (h | ⟨o, h⟩) | h
  · exact .inl (.inl (u _ _ h (D.ne h fun _ z => by cases z)))
  · exact .inl (.inr ⟨o, u _ _ h (D.ne h fun _ z => by cases z)⟩)
  · exact .inr h
theorem U1.frz (u : U1 d H H') (D : DL H d n) {a : Addr} {o : Obj} {x : HO} (h : H a = some (.frz o x)) : H' a = some (.frz o x) := u _ _ h (D.ne h fun _ z => by cases z)
theorem U1.dk (u : U1 d H H') (D : DL H d n) {a : Addr} {kvs : List (Key × V)} (h : H a = some (.dK kvs)) : H' a = some (.dK kvs) := u _ _ h (D.ne h fun _ z => by cases z)
theorem U1.sql (u : U1 d H H') {a : Addr} {xs : List V} (hn : a ≠ d) (h : SqL K H a xs) : SqL K H' a xs := by
  rcases h with (h | ⟨o, h⟩) | h
  · exact .inl (.inl (u _ _ h hn))
  · exact .inl (.inr ⟨o, u _ _ h hn⟩)
  · exact .inr h
/-- a list apart from the draws: it is kept or it is another one -/
theorem sql_apart {a : Addr} {xs : List V} (h : SqL K H a xs) (D : DL H d n) (hx : ∀ x y z : Int, xs ≠ [.int x, .int y, .int z]) (hk : ∀ o, H a = some o → a ≠ d ∨ (∃ ys, o = .lst ys)) : (∀ o, SqL K (upd H d o) a xs) := by
  intro o
  rcases h with (h | ⟨q, h⟩) | h
  · by_cases e : a = d
    · subst e
      obtain ⟨x, y, z, h1, _⟩ := D
      rw [h] at h1
      exact absurd (HO.lst.inj (Option.some.inj h1)) (hx x y z)
    · exact .inl (.inl (by rw [upd_ne e]; exact h))
  · exact .inl (.inr ⟨q, by rw [upd_ne (D.ne h fun _ z => by cases z)]; exact h⟩)
  · exact .inr h
end
def sg (c : Nat) : Str := ⟨#[c]⟩
theorem joinL_sg : ∀ cs : List Nat, joinL [] (cs.map fun c => [c]) = cs
  | [] => rfl
  | [c] => rfl
  | c :: d :: r => by
    have ih := joinL_sg (d :: r)
    show [c] ++ [] ++ joinL [] ((d :: r).map fun c => [c]) = _
    rw [ih]
    rfl
theorem join_sg (cs : List Nat) : (Txt.join Str.empty (cs.map sg)).cps.toList = cs := by
  have h := tl_join Str.empty (cs.map sg)
  rw [← join_eq, List.map_map] at h
  exact h.trans (joinL_sg cs)
/-- what is picked from -/
def Pickd (K : PySem.W.Frag) (H : Hp) (x : V) (ys : List V) : Prop := (∃ l, x = .ref l ∧ SqL K H l ys) ∨ (∃ t, x = .ref t ∧ SqT K H t ys) ∨ ∃ z : Str, x = .str z ∧ z.length ≤ 100000 ∧ ys = z.cps.toList.map fun c => V.str (sg c)
/-! ### the law's list -/
theorem script_or {K : PySem.W.Frag} {a : Addr} {ns : List Int} {σ : L2.St} {H : Hp} {Q : VK} (h0 : σ[0]? = some (some (.ref a))) (hS : SqL K H a (ns.map V.int)) (hl : ns.length ≤ 63) (h : ∀ (b : Addr) (ms : List Int) (H1 : Hp), Same H H1 → SqL K H1 b (ms.map V.int) → ms.length ≤ 63 → Q (.ref b) H1) :
    tOrT K (tVar 0) (tLst (tCons (tC (.int 5)) tNil)) σ H Q := by
  refine ⟨_, h0, !(ns.map V.int).isEmpty, .inl ⟨_, hS, rfl⟩, ite2 (fun _ => h a ns H (Same.refl H) hS hl) fun _ => ⟨(by show 1 ≤ sizeLine; decide), fun p hp => h p [5] _ (same_upd hp) (.inl (.inl upd_same)) (by decide)⟩⟩
theorem cut_to (xs : List V) (n : Nat) : cutV xs none (some (n : Int)) = xs.take n := by
  unfold cutV
  rw [HT.sIx_none, HT.sIx_nat, List.drop_zero, Nat.sub_zero, List.take_eq_take_iff]
  omega
theorem cut_ints (ms : List Int) (n : Nat) : ∃ cs : List Int, cutV (ms.map V.int) none (some (n : Int)) = cs.map V.int ∧ cs.length ≤ n := by
  refine ⟨ms.take n, ?_, List.length_take_le _ _⟩
  unfold cutV
  rw [HT.sIx_none, HT.sIx_nat, List.length_map, List.drop_zero, List.map_take, Nat.sub_zero, List.take_eq_take_iff]
  simp only [List.length_map]
  omega
end HU
namespace T43
open PySem PySem.Spec PyProof.Rows L2 HX HB HG HU
def topS (i : Nat) : Stmt := PySem.Challenge.pw_nestyard_k43_steps_that_meet.main.body.getD i (.Pass ⟨0, 0, 0, 0⟩)
abbrev s_meet : Stmt := topS 2
theorem sc_meet : FnScope ["step", "other", "who", "rest", "touched", "theirs", "thing", "way"] ["step", "other"] (defScope s_meet) := ⟨rfl, rfl, rfl, by decide +kernel, rfl, by decide +kernel, by decide +kernel⟩

abbrev s_begun : Stmt := topS 4
theorem sc_begun : FnScope ["_law_cell", "_law_k"] ["_law_cell", "_law_k"] (defScope s_begun) := ⟨rfl, rfl, rfl, by decide +kernel, rfl, by decide +kernel, by decide +kernel⟩

abbrev s_next : Stmt := topS 5
theorem sc_next : FnScope ["_law_draw", "_law_size", "_law_found"] ["_law_draw", "_law_size"] (defScope s_next) := ⟨rfl, rfl, rfl, by decide +kernel, rfl, by decide +kernel, by decide +kernel⟩

abbrev s_pick : Stmt := topS 6
theorem sc_pick : FnScope ["_law_draw", "_law_some"] ["_law_draw", "_law_some"] (defScope s_pick) := ⟨rfl, rfl, rfl, by decide +kernel, rfl, by decide +kernel, by decide +kernel⟩

abbrev s_step : Stmt := topS 7
theorem sc_step : FnScope ["_law_draw", "_law_name", "_law_words", "_law_who", "_law_scopes", "_law_word", "_law_plain", "_law_scope", "_law_own", "_law_touched", "_law_turn", "_law_place"] ["_law_draw", "_law_name", "_law_words"] (defScope s_step) := ⟨rfl, rfl, rfl, by decide +kernel, rfl, by decide +kernel, by decide +kernel⟩

abbrev s_due : Stmt := topS 8
theorem sc_due : FnScope ["_law_step_here", "_law_other", "_law_first", "_law_second", "_law_thing"] ["_law_step_here", "_law_other"] (defScope s_due) := ⟨rfl, rfl, rfl, by decide +kernel, rfl, by decide +kernel, by decide +kernel⟩

abbrev s_law : Stmt := topS 9
theorem sc_law : FnScope ["_law_script", "_law_k", "_law_cell", "_law_draw", "_law_name", "_law_some", "_law_turn", "_law_words", "_law_one", "_law_two", "_law_due_here", "_law_first", "_law_second", "_law_found"] ["_law_script"] (defScope s_law) := ⟨rfl, rfl, rfl, by decide +kernel, rfl, by decide +kernel, by decide +kernel⟩

structure Tp (K : PySem.W.Frag) (mg : Str → Option Value) where
  f_meet : Addr
  fd_meet : FuncData
  D_meet : Df K mg "meet" "meet" s_meet ["step", "other"] f_meet fd_meet
  f_begun : Addr
  fd_begun : FuncData
  D_begun : Df K mg "_law_begun" "_law_begun" s_begun ["_law_cell", "_law_k"] f_begun fd_begun
  f_next : Addr
  fd_next : FuncData
  D_next : Df K mg "_law_next" "_law_next" s_next ["_law_draw", "_law_size"] f_next fd_next
  f_pick : Addr
  fd_pick : FuncData
  D_pick : Df K mg "_law_pick" "_law_pick" s_pick ["_law_draw", "_law_some"] f_pick fd_pick
  f_step : Addr
  fd_step : FuncData
  D_step : Df K mg "_law_step" "_law_step" s_step ["_law_draw", "_law_name", "_law_words"] f_step fd_step
  f_due : Addr
  fd_due : FuncData
  D_due : Df K mg "_law_due" "_law_due" s_due ["_law_step_here", "_law_other"] f_due fd_due
  c_CLOCK : ∃ t : Tok, mg "CLOCK" = some (.str "clock" t)
  any : mg "any" = none
  bool : mg "bool" = none
  dict : mg "dict" = none
  enumerate : mg "enumerate" = none
  isinstance : mg "isinstance" = none
  len : mg "len" = none
  list : mg "list" = none
  max : mg "max" = none
  range : mg "range" = none
  sorted : mg "sorted" = none
  sum : mg "sum" = none
  tuple : mg "tuple" = none

section
variable {P : Program} {w : World} {K : PySem.W.Frag} {mg : Str → Option Value} {base : Heap}
/-! ### draws -/
def spBegun : Sp := fun vs H Q _ => ∃ (c k : Int), vs = [.int c, .int k] ∧ 0 ≤ k ∧ k ≤ 1000 ∧ ∀ p H', H p = none → Same H H' → DL H' p 0 → Q (.ref p) H'
theorem ok_begun (T : Tp K mg) : FnOk P w K mg base CX0 1 T.f_begun T.fd_begun ["_law_cell", "_law_k"] spBegun := by
  refine T.D_begun.F.ok sc_begun (fun vs H Q E h => ?_) (fun cdv A outer s H vs Q E hr h => ?_)
  · obtain ⟨c, k, rfl, _⟩ := h
    rfl
  · obtain ⟨c, k, rfl, k0, k1, q⟩ := h
    refine ⟨_, (pss_one (ps_ret (pe_lst (pa_cons (pe_callB (call_max2 rfl) (by rfl) T.max (by decide +kernel) (pa_cons pe_int (pa_cons (pe_op op_sub (pv 0) (pe_op op_pow pe_int pe_int)) pa_nil))) (pa_cons (pe_op op_add (pv 0) (pe_op op_mul pe_int (pv 1))) (pa_cons pe_int pa_nil)))))), ?_⟩
    refine ⟨_, rfl, _, _, rfl, rfl, ⟨by decide, by decide, by decide⟩, _, _, rfl, rfl, _, _, rfl, ?_⟩
    refine ⟨_, rfl, _, rfl, _, _, rfl, rfl, .inl ⟨by decide, by decide⟩, _, _, rfl, rfl, (by show 3 ≤ sizeLine; decide), fun p hp => ?_⟩
    exact q p _ hp (same_upd hp) ⟨_, _, _, upd_same, Int.le_refl _, Int.le_refl _⟩
def spNext : Sp := fun vs H Q _ => ∃ (d : Addr) (m : Nat) (n : Int), vs = [.ref d, .int n] ∧ DL H d m ∧ m < 600 ∧ 0 < n ∧ n ≤ 10 ^ 13 ∧ ∀ r H', 0 ≤ r → r < n → DL H' d (m + 1) → U1 d H H' → Q (.int r) H'
theorem ok_next (T : Tp K mg) : FnOk P w K mg base CX0 1 T.f_next T.fd_next ["_law_draw", "_law_size"] spNext := by
  refine T.D_next.F.ok sc_next (fun vs H Q E h => ?_) (fun cdv A outer s H vs Q E hr h => ?_)
  · obtain ⟨d, m, n, rfl, _⟩ := h
    rfl
  · obtain ⟨a, m, n, rfl, ⟨x, y, z, hA, z0, z1⟩, hm, n0, n1, q⟩ := h
    have hdiv : ∀ x : Int, CDivW x n := fun _ => wide_div n0 (b := 50) (by omega) (by decide) (by decide)
    refine ⟨_, (pss_cons (ps_if (pt_cmpR op_gt (pe_ix ix_list (pv 0) pe_int (fun _ _ => rfl)) pe_int (nomark _))
  (pss_cons (ps_set (i := 2) sc_next.nd rfl (.inl rfl) (pe_op op_modN (pe_ix ix_list (pv 0) pe_int (fun _ _ => rfl)) (pv 1)))
  (pss_cons (ps_asg (pe_op op_fdivW (pe_ix ix_list (pv 0) pe_int (fun _ _ => rfl)) (pv 1)) (pg_sub (pv 0) pe_int set_list))
  (pss_one (ps_ret (pv 2)))))
  pss_nil)
  (pss_cons (ps_asg (pe_op op_add (pe_ix ix_list (pv 0) pe_int (fun _ _ => rfl)) pe_int) (pg_sub (pv 0) pe_int set_list))
  (pss_cons (ps_set (i := 2) sc_next.nd rfl (.inl rfl) (pe_op op_add (pe_op op_mod (pe_ix ix_list (pv 0) pe_int (fun _ _ => rfl)) pe_int) (pe_op op_mul pe_int (pe_ix ix_list (pv 0) pe_int (fun _ _ => rfl)))))
  (pss_cons (ps_set (i := 2) sc_next.nd rfl (.inl rfl) (pe_op op_mul (pv 2) (pe_op op_add (pe_op op_add (pe_op op_mod (pe_ix ix_list (pv 0) pe_int (fun _ _ => rfl)) pe_int) (pe_op op_mul (pe_op op_mul pe_int (pe_ix ix_list (pv 0) pe_int (fun _ _ => rfl))) (pe_ix ix_list (pv 0) pe_int (fun _ _ => rfl)))) pe_int)))
  (pss_one (ps_ret (pe_op op_modN (pe_op op_fdiv (pe_op op_mod (pe_op op_pow (pv 2) pe_int) pe_int) pe_int) (pv 1)))))))), ?_⟩
    refine ⟨_, rfl, a, _, _, _, rfl, rfl, .inl (.inl hA), atI_nat (j := 0) rfl, _, _, rfl, rfl, _, rfl, ite2 (fun _ => ?_) (fun _ => ?_)⟩
    · refine ⟨_, rfl, a, _, _, _, rfl, rfl, .inl (.inl hA), atI_nat (j := 0) rfl, _, rfl, _, _, rfl, rfl, (by omega), ?_⟩
      refine ⟨_, rfl, a, _, _, _, rfl, rfl, .inl (.inl hA), atI_nat (j := 0) rfl, _, rfl, _, _, rfl, rfl, hdiv _, ?_⟩
      refine ⟨_, rfl, a, _, _, 0, rfl, rfl, hA, rfl, ?_⟩
      refine ⟨_, rfl, ?_⟩
      exact q _ _ (Int.fmod_nonneg_of_pos _ n0) (Int.fmod_lt_of_pos _ n0) ⟨_, _, _, upd_same, z0, by omega⟩ (U1.set (U1.refl H))
    · refine ⟨_, rfl, a, _, _, _, rfl, rfl, .inl (.inl hA), atI_nat (j := 2) rfl, _, _, rfl, rfl, ?_⟩
      refine ⟨_, rfl, a, _, _, 2, rfl, rfl, hA, rfl, ?_⟩
      show tSeq _ _ _ _ (upd H a (dr x y (z + 1)))
      have hB : (upd H a (dr x y (z + 1))) a = some (dr x y (z + 1)) := upd_same
      refine ⟨_, rfl, a, _, _, _, rfl, rfl, .inl (.inl hB), atI_nat (j := 1) rfl, _, _, rfl, rfl, (by show (0 : Int) < 2147483629; decide), ?_⟩
      refine ⟨_, rfl, a, _, _, _, rfl, rfl, .inl (.inl hB), atI_nat (j := 2) rfl, _, _, rfl, rfl, .inl ⟨by decide, by decide⟩, ?_⟩
      refine ⟨_, _, rfl, rfl, ?_⟩
      refine ⟨_, rfl, ?_⟩
      refine ⟨_, rfl, a, _, _, _, rfl, rfl, .inl (.inl hB), atI_nat (j := 1) rfl, _, _, rfl, rfl, (by show (0 : Int) < 2147483587; decide), ?_⟩
      refine ⟨_, rfl, a, _, _, _, rfl, rfl, .inl (.inl hB), atI_nat (j := 2) rfl, _, _, rfl, rfl, .inl ⟨by decide, by decide⟩, ?_⟩
      refine ⟨_, rfl, a, _, _, _, rfl, rfl, .inl (.inl hB), atI_nat (j := 2) rfl, _, _, rfl, rfl, .inl ⟨by omega, by omega⟩, ?_⟩
      have hsq : 0 ≤ 7919 * (z + 1) * (z + 1) ∧ 7919 * (z + 1) * (z + 1) ≤ 7919 * 600 * 600 := by
        refine ⟨Int.mul_nonneg (by omega) (by omega), Int.mul_le_mul (by omega) (by omega) (by omega) (by omega)⟩
      refine ⟨_, _, rfl, rfl, _, _, rfl, rfl, ?_⟩
      have c0 : 0 ≤ y % 2147483629 + 104729 * (z + 1) ∧ y % 2147483629 + 104729 * (z + 1) ≤ 2300000000 := by omega
      have b0 : 0 ≤ y % 2147483587 + 7919 * (z + 1) * (z + 1) + 11 ∧ y % 2147483587 + 7919 * (z + 1) * (z + 1) + 11 ≤ 5200000000 := by omega
      refine ⟨_, _, rfl, rfl, .inl ⟨by omega, by omega⟩, ?_⟩
      have m0 := Int.mul_nonneg c0.1 b0.1
      have m1 := Int.mul_le_mul c0.2 b0.2 b0.1 (by omega)
      refine ⟨_, rfl, _, _, rfl, rfl, ⟨by decide, by decide, by omega⟩, _, _, rfl, rfl, (by show (0 : Int) < 2147483647; decide), _, _, rfl, rfl, ⟨by decide, by decide⟩, _, rfl, _, _, rfl, rfl, (by omega), ?_⟩
      exact q _ _ (Int.fmod_nonneg_of_pos _ n0) (Int.fmod_lt_of_pos _ n0) ⟨_, _, _, upd_same, by omega, by omega⟩ (U1.set (U1.refl H))
def spPick (K : PySem.W.Frag) : Sp := fun vs H Q _ => ∃ (d : Addr) (m : Nat) (x : V) (ys : List V), vs = [.ref d, x] ∧ DL H d m ∧ m < 600 ∧ (∀ H', U1 d H H' → Pickd K H' x ys) ∧ ys ≠ [] ∧ ys.length ≤ 1000 ∧
  ∀ v H', v ∈ ys → DL H' d (m + 1) → U1 d H H' → Q v H'
theorem pickd_len {H : Hp} {x : V} {ys : List V} (h : Pickd K H x ys) : LenV K x H ys.length := by
  rcases h with ⟨l, rfl, h⟩ | ⟨t, rfl, h⟩ | ⟨z, rfl, h, rfl⟩
  · exact .inl ⟨_, h, rfl⟩
  · exact .inr ⟨_, h, rfl⟩
  · exact ⟨Evl.sz_of h, by rw [List.length_map, Array.length_toList]; rfl⟩
theorem pickd_ix {H : Hp} {x v : V} {ys : List V} {j : Nat} {Q : VK} (h : Pickd K H x ys) (hj : ys[j]? = some v) (q : Q v H) : rIx K x (.int (j : Int)) H Q := by
  rcases h with ⟨l, rfl, h⟩ | ⟨t, rfl, h⟩ | ⟨z, rfl, h, rfl⟩
  · exact .inl ⟨l, _, _, v, rfl, rfl, h, atI_nat hj, q⟩
  · exact .inr (.inl ⟨t, _, _, v, rfl, rfl, h, atI_nat hj, q⟩)
  · rw [List.getElem?_map] at hj
    cases e : z.cps.toList[j]? with
    | none => rw [e] at hj; cases hj
    | some c =>
      rw [e] at hj
      cases hj
      exact .inr (.inr ⟨z, _, c, rfl, rfl, Evl.sz_of h, atI_nat e, q⟩)
theorem ok_pick (T : Tp K mg) : FnOk P w K mg base CX0 2 T.f_pick T.fd_pick ["_law_draw", "_law_some"] (spPick K) := by
  refine T.D_pick.F.ok sc_pick (fun vs H Q E h => ?_) (fun cdv A outer s H vs Q E hr h => ?_)
  · obtain ⟨d, m, x, ys, rfl, _⟩ := h
    rfl
  · obtain ⟨d, m, x, ys, rfl, D, hm, hp, hne, hlen, q⟩ := h
    refine ⟨_, (pss_one (ps_ret (pe_ix ix_seq (pv 1) (pcall T.D_next (ok_next T) hr (by rfl) (pa_cons (pv 0) (pa_cons (pe_callB call_len (by rfl) T.len PySem.boot_len (pa_cons (pv 1) pa_nil)) pa_nil))) (fun _ _ => rfl)))), ?_⟩
    have lp : 0 < ys.length := List.length_pos_iff.mpr hne
    refine ⟨_, rfl, _, rfl, _, rfl, _, _, rfl, pickd_len (hp H (U1.refl H)), d, m, _, rfl, D, hm, (by omega), (by omega), fun r H1 r0 r1 D1 u1 => ?_⟩
    obtain ⟨j, rfl⟩ : ∃ j : Nat, r = (j : Int) := ⟨r.toNat, by omega⟩
    have hj : j < ys.length := by omega
    exact pickd_ix (hp H1 u1) (List.getElem?_eq_getElem hj) (q _ _ (List.getElem_mem _) D1 u1)
end
end T43
namespace T43
open PySem PySem.Spec PyProof.Rows L2 HX HB HG HU
/-! ### steps -/
/-- a dict of texts -/
def dz (ts : List (Str × Str)) : List (Key × V) := ts.map fun p => (Sum.inr p.1, .str p.2)
def lookS (ts : List (Str × Str)) (k : Str) : Option Str := (ts.find? fun p => decide (p.1 = k)).map (·.2)
theorem lookS_val (ts : List (Str × Str)) (k : Str) : valV (dz ts) (Sum.inr k : Key) = (lookS ts k).map V.str := by
  unfold valV dz lookS
  rw [List.find?_map]
  have e : ((fun kv : Key × V => decide (kv.1 = Sum.inr k)) ∘ fun p : Str × Str => (Sum.inr p.1, V.str p.2)) = fun p : Str × Str => decide (p.1 = k) := by
    funext p
    show decide ((Sum.inr p.1 : Key) = Sum.inr k) = _
    rw [key_rr]
  rw [e]
  cases ts.find? fun p => decide (p.1 = k) <;> rfl
theorem nodup_fst : ∀ {ks : List (Str × Str)}, (ks.map (·.1)).Nodup → ∀ {p q : Str × Str}, p ∈ ks → q ∈ ks → p.1 = q.1 → p = q
  | [], _, p, _, hp, _, _ => by cases hp
  | a :: l, h, p, q, hp, hq, he => by
    rw [List.map_cons, List.nodup_cons] at h
    rcases List.mem_cons.mp hp with e1 | hp' <;> rcases List.mem_cons.mp hq with e2 | hq'
    · rw [e1, e2]
    · subst e1; exact absurd (List.mem_map.mpr ⟨q, hq', he.symm⟩) h.1
    · subst e2; exact absurd (List.mem_map.mpr ⟨p, hp', he⟩) h.1
    · exact nodup_fst h.2 hp' hq' he
theorem lookS_mem {ts : List (Str × Str)} (h : (ts.map (·.1)).Nodup) {k w : Str} : lookS ts k = some w ↔ (k, w) ∈ ts := by
  unfold lookS
  constructor
  · intro e
    cases e1 : ts.find? fun p => decide (p.1 = k) with
    | none => rw [e1] at e; cases e
    | some p =>
      rw [e1] at e
      cases e
      have h1 := List.mem_of_find?_eq_some e1
      have h2 : p.1 = k := by have := List.find?_some e1; simpa using this
      rw [← h2]
      exact h1
  · intro hm
    cases e1 : ts.find? fun p => decide (p.1 = k) with
    | none => exact absurd (List.find?_eq_none.mp e1 _ hm) (by simp)
    | some p =>
      have h1 := List.mem_of_find?_eq_some e1
      have h2 : p.1 = k := by have := List.find?_some e1; simpa using this
      rw [nodup_fst h h1 hm h2]
      rfl
theorem merge_new : ∀ (more acc : List (Key × V)), ((acc ++ more).map (·.1)).Nodup → mergeK acc more = acc ++ more
  | [], acc, _ => by rw [List.append_nil]; rfl
  | (k, v) :: more, acc, h => by
    have hk : valV acc k = none := by
      unfold valV
      cases e : acc.find? fun kv => decide (kv.1 = k) with
      | none => rfl
      | some p =>
        have hp := List.mem_of_find?_eq_some e
        have he := List.find?_some e
        rw [List.map_append, List.map_cons, List.nodup_append] at h
        exact absurd (of_decide_eq_true he) (h.2.2 _ (List.mem_map.mpr ⟨p, hp, rfl⟩) _ (List.mem_cons_self ..))
    show mergeK (putK acc k v) more = _
    rw [putK_new v hk, merge_new more (acc ++ [(k, v)]) (by rwa [List.append_assoc]), List.append_assoc]
    rfl
theorem dz_new {ts : List (Str × Str)} (h : (ts.map (·.1)).Nodup) : mergeK [] (dz ts) = dz ts := by
  refine merge_new (dz ts) [] ?_
  rw [List.nil_append]
  unfold dz
  rw [List.map_map]
  have e : (((fun kv : Key × V => kv.1) ∘ fun p : Str × Str => ((Sum.inr p.1 : Key), V.str p.2)) : Str × Str → Key) = (fun s : Str => (Sum.inr s : Key)) ∘ fun p => p.1 := rfl
  rw [e, ← List.map_map]
  exact List.Pairwise.map _ (fun a b hab z => hab (Sum.inr.inj z)) h
theorem paired_at {α β : Type} {F : α → β → Prop} : ∀ {l : List α} {m : List β}, Paired F l m → ∀ {i : Nat} {a : α}, l[i]? = some a → ∃ b, m[i]? = some b ∧ F a b
  | _, _, .nil, i, a, h => by simp at h
  | _, _, .cons x t, 0, a, h => by cases h; exact ⟨_, rfl, x⟩
  | _, _, .cons x t, i + 1, a, h => paired_at t (by simpa using h)
/-- two steps meet -/
def bad (t : List (Str × Str)) (p : Str × Str) : Bool := match lookS t p.1 with
  | none => false
  | some w => decide (p.2 = "w") || decide (w = "w")
def conf (w1 : Str) (t1 : List (Str × Str)) (w2 : Str) (t2 : List (Str × Str)) : Bool :=
  decide (w1 = w2) || (decide (w1 = "clock") || decide (w2 = "clock")) || t1.any (bad t2)
theorem conf_half {w1 w2 : Str} {t1 t2 : List (Str × Str)} (h1 : (t1.map (·.1)).Nodup) (h2 : (t2.map (·.1)).Nodup) (h : t1.any (bad t2) = true) : t2.any (bad t1) = true := by
  obtain ⟨p, hp, hb⟩ := List.any_eq_true.mp h
  unfold bad at hb
  cases e : lookS t2 p.1 with
  | none => rw [e] at hb; cases hb
  | some w =>
    rw [e] at hb
    refine List.any_eq_true.mpr ⟨(p.1, w), (lookS_mem h2).mp e, ?_⟩
    unfold bad
    rw [show lookS t1 p.1 = some p.2 from (lookS_mem h1).mpr hp]
    show (decide (w = "w") || decide (p.2 = "w")) = true
    rw [Bool.or_comm]
    exact hb
theorem conf_comm {w1 w2 : Str} {t1 t2 : List (Str × Str)} (h1 : (t1.map (·.1)).Nodup) (h2 : (t2.map (·.1)).Nodup) : conf w1 t1 w2 t2 = conf w2 t2 w1 t1 := by
  unfold conf
  have e : t1.any (bad t2) = t2.any (bad t1) := by
    rw [Bool.eq_iff_iff]
    exact ⟨conf_half (w1 := w1) (w2 := w2) h1 h2, conf_half (w1 := w1) (w2 := w2) h2 h1⟩
  rw [e]
  congr 1
  rw [show decide (w1 = w2) = decide (w2 = w1) from decide_eq_decide.mpr eq_comm, Bool.or_comm (decide (w1 = "clock"))]
structure Stp (K : PySem.W.Frag) (H : Hp) (a : Addr) (who : Str) (ts : List (Str × Str)) : Prop where
  ex : ∃ (word : V) (pl : V) (t : Addr), SqT K H a [.str who, word, pl, .ref t] ∧ (who = "clock" ∨ ∃ (o : Obj) (ps : List Addr), H t = some (.frz o (.tup (ps.map V.ref))) ∧ o.dict = none ∧ Paired (fun p (kv : Key × V) => SqT K H p [kV kv.1, kv.2]) ps (dz ts))
  nd : (ts.map (·.1)).Nodup
  few : ts.length ≤ 1000
theorem paired_imp {α β : Type} {F G : α → β → Prop} (h : ∀ a b, F a b → G a b) : ∀ {l : List α} {m : List β}, Paired F l m → Paired G l m
  | _, _, .nil => .nil
  | _, _, .cons x t => .cons (h _ _ x) (paired_imp h t)
theorem Stp.same {K : PySem.W.Frag} {H H' : Hp} {a : Addr} {who : Str} {ts : List (Str × Str)} (S : Stp K H a who ts) (s : Same H H') : Stp K H' a who ts := by
  obtain ⟨word, pl, t, h1, h2⟩ := S.ex
  exact ⟨⟨word, pl, t, s.sqt h1, h2.imp id fun ⟨o, ps, e1, e2, e3⟩ => ⟨o, ps, s _ _ e1, e2, paired_imp (fun _ _ h => s.sqt h) e3⟩⟩, S.nd, S.few⟩
theorem Stp.up {K : PySem.W.Frag} {H H' : Hp} {d a : Addr} {n : Nat} {who : Str} {ts : List (Str × Str)} (S : Stp K H a who ts) (u : U1 d H H') (D : DL H d n) : Stp K H' a who ts := by
  obtain ⟨word, pl, t, h1, h2⟩ := S.ex
  exact ⟨⟨word, pl, t, u.sqt D h1, h2.imp id fun ⟨o, ps, e1, e2, e3⟩ => ⟨o, ps, u.frz D e1, e2, paired_imp (fun _ _ h => u.sqt D h) e3⟩⟩, S.nd, S.few⟩
theorem putK_new {kvs : List (Key × V)} {k : Key} (v : V) (h : valV kvs k = none) : putK kvs k v = kvs ++ [(k, v)] := L2.putK_new v h
section
variable {P : Program} {w : World} {K : PySem.W.Frag} {mg : Str → Option Value} {base : Heap}
def spMeet (K : PySem.W.Frag) : Sp := fun vs H Q _ => ∃ (a b : Addr) (w1 w2 : Str) (t1 t2 : List (Str × Str)), vs = [.ref a, .ref b] ∧ Stp K H a w1 t1 ∧ Stp K H b w2 t2 ∧ ∀ H', Same H H' → Q (.bl (conf w1 t1 w2 t2)) H'
theorem in_two (c x y : Str) : inV (.str c) [.str x, .str y] = (decide (x = c) || decide (y = c)) := by
  show (eqV (.str x) (.str c) || (eqV (.str y) (.str c) || false)) = _
  simp only [eqV, Bool.or_false]
  have e : ∀ z : Str, (z == c) = decide (z = c) := fun z => by
    by_cases h : z = c
    · subst h; simp
    · rw [decide_eq_false h]; exact beq_eq_false_iff_ne.mpr h
  rw [e, e]
theorem ok_meet (T : Tp K mg) : FnOk P w K mg base CX0 1 T.f_meet T.fd_meet ["step", "other"] (spMeet K) := by
  refine T.D_meet.F.ok sc_meet (fun vs H Q E h => ?_) (fun cdv A outer s H vs Q E hr h => ?_)
  · obtain ⟨a, b, w1, w2, t1, t2, rfl, _⟩ := h
    rfl
  · obtain ⟨a, b, w1, w2, t1, t2, rfl, S1, S2, q⟩ := h
    have hu := hu_of hr
    obtain ⟨wd1, pl1, x1, h1, k1⟩ := S1.ex
    obtain ⟨wd2, pl2, x2, h2, k2⟩ := S2.ex
    refine ⟨_, (pss_cons (ps_asg (pv 0) (pg_star (n := 3) (i := 1) rfl (pgs_cons (pg_name (i := 2) sc_meet.nd rfl (.inl rfl)) (pgs_star (pg_name (i := 3) sc_meet.nd rfl (.inl rfl)) (pgs_cons (pg_name (i := 4) sc_meet.nd rfl (.inl rfl)) pgs_nil)))))
  (pss_cons (ps_if (PW.pt (pw_or (pt_cmpR op_eq (pv 2) (pe_ix ix_tup (pv 1) pe_int (fun _ _ => rfl)) (nomark _)) (pw_or1 (pt_cmpR op_in_seq (pe_gs (by rfl) T.c_CLOCK) (pe_tup (pa_cons (pv 2) (pa_cons (pe_ix ix_tup (pv 1) pe_int (fun _ _ => rfl)) pa_nil))) (by rfl)))))
  (pss_one (ps_ret pe_bl))
  pss_nil)
  (pss_cons (ps_set (i := 5) sc_meet.nd rfl (.inr rfl) (pe_callTy (call_dictT rfl) (by rfl) T.dict (by decide +kernel) (pa_cons (pe_ix ix_tup (pv 1) (pe_un un_neg pe_int) (fun _ _ => rfl)) pa_nil)))
  (pss_one (ps_ret (pe_callB (cr_any rfl) (by rfl) T.any (by decide +kernel) (pa_cons (pe_lc (own := [("thing", 6), ("way", 7)]) (g := gTup K 2 (gCons (gName 6) (gCons (gName 7) gNil))) (by rfl) sc_meet.nd (pi_tup (pv 4)) (blkOk_by (own := [("thing", 6), ("way", 7)]) (N := ["step", "other", "who", "rest", "touched", "theirs", "thing", "way"]) (sc := defScope s_meet) (by decide +kernel)) (fun _ _ _ _ _ => (pg_tup rfl (pgs_cons (pg_name (i := 6) sc_meet.nd rfl (.inl rfl)) (pgs_cons (pg_name (i := 7) sc_meet.nd rfl (.inl rfl)) pgs_nil)))) (fun _ _ _ _ _ => pts_nil) (fun _ _ _ _ _ => (pe_or (pe_cmpR op_eq (pe_dget1 hu (pv 5) (pv 6) ⟨by rfl, by rfl, by rfl, by rfl⟩) pe_str (nomark _)) (pe_one (pe_and (pe_cmpR op_eq (pv 7) pe_str (nomark _)) (pe_one (pe_cmp (pc_din hu (pv 6) (pv 5))))))))) pa_nil))))))), ?_⟩
    refine ⟨_, rfl, a, _, rfl, h1, by show 3 ≤ 4 + 1; decide, by show 4 ≤ 16384; decide, fun p np => ?_⟩
    refine ⟨_, _, rfl, _, _, rfl, _, _, rfl, rfl, ?_⟩
    have s1 := same_upd (o := .lst [wd1, pl1]) np
    show tSeq _ _ _ _ (upd H p (.lst [wd1, pl1]))
    generalize upd H p (.lst [wd1, pl1]) = H1 at s1 ⊢
    have h2' := s1.sqt h2
    refine ⟨_, rfl, _, rfl, _, _, _, _, rfl, rfl, h2', atI_nat (j := 0) rfl, rfl, _, rfl, ?_⟩
    have early : ∀ H', Same H1 H' → (decide (w1 = w2) || (decide (w1 = "clock") || decide (w2 = "clock"))) = true → Q (.bl true) H' := fun H' s' e => by
      have h := q H' (s1.trans s')
      unfold conf at h
      rw [e] at h
      exact h
    refine ite2 (fun hw => ?_) (fun hw => ?_)
    · refine early H1 (Same.refl _) ?_
      have : w1 = w2 := by have := of_decide_eq_true hw; cases this; rfl
      rw [decide_eq_true this]
      rfl
    have ne12 : w1 ≠ w2 := fun e => hw (decide_eq_true (by rw [e]))
    refine ⟨_, rfl, _, rfl, _, _, _, _, rfl, rfl, h2', atI_nat (j := 0) rfl, by show 2 ≤ sizeLine; decide, fun p2 np2 => ?_⟩
    have s2 := same_upd (o := .tup [.str w1, .str w2]) np2
    have hp2 : (upd H1 p2 (.tup [.str w1, .str w2])) p2 = some (.tup [.str w1, .str w2]) := upd_same
    generalize upd H1 p2 (.tup [.str w1, .str w2]) = H2 at s2 hp2 ⊢
    refine ⟨p2, _, rfl, .inr (stt hp2), rfl, rfl, _, rfl, ?_⟩
    rw [if_neg Bool.false_ne_true, in_two]
    refine ite2 (fun hc => early H2 s2 (by rw [hc]; simp)) (fun hc => ?_)
    have noc : ¬ w1 = "clock" ∧ ¬ w2 = "clock" := by simpa using hc
    obtain ⟨o1, ps1, ht1, od1, hp1⟩ := k1.resolve_left noc.1
    obtain ⟨o2, ps2, ht2, od2, hpp2⟩ := k2.resolve_left noc.2
    have s12 := s1.trans s2
    refine ⟨_, rfl, _, rfl, _, _, _, _, rfl, rfl, s2.sqt h2', rfl, x2, o2, ps2, dz t2, rfl, s12 _ _ ht2, od2, paired_imp (fun _ _ h => s12.sqt h) hpp2, fun D nD => ?_⟩
    rw [dz_new S2.nd]
    have s3 := same_upd (o := .dK (dz t2)) nD
    have hD : (upd H2 D (.dK (dz t2))) D = some (.dK (dz t2)) := upd_same
    show tSeq _ _ _ _ (upd H2 D (.dK (dz t2)))
    generalize upd H2 D (.dK (dz t2)) = H3 at s3 hD ⊢
    have s13 := s12.trans s3
    refine ⟨_, rfl, x1, rfl, ⟨_, .inl (.inr ⟨o1, s13 _ _ ht1⟩)⟩, fun L nL => ?_⟩
    have len1 : ps1.length = t1.length := by rw [hp1.length, dz, List.length_map]
    refine lc_it (walk_tup (xs := ps1.map V.ref)) (fun i H4 => Same H3 H4 ∧ H4 L = some (.lst (((t1.take i).map (bad t2)).map V.bl))) ⟨same_upd nL, upd_same⟩ (fun i H4 _ g => .inl (.inr ⟨o1, g.1 _ _ (s13 _ _ ht1)⟩)) ?_ ?_
    · rintro i x H4 H5 hi ⟨sm, hL⟩ ⟨rfl, hx⟩
      rw [List.length_map] at hi
      rw [List.getElem?_map, List.getElem?_eq_getElem hi] at hx
      cases hx
      have hi1 : i < t1.length := by omega
      obtain ⟨kv, e1, e2⟩ := paired_at hp1 (List.getElem?_eq_getElem hi)
      rw [dz, List.getElem?_map, List.getElem?_eq_getElem hi1] at e1
      cases e1
      have fin : ∀ H' b, Same H5 H' → b = bad t2 t1[i] → ∃ acc, H' L = some (.lst acc) ∧ acc.length < sizeLine ∧ Same H3 (upd H' L (.lst (acc ++ [V.bl b]))) ∧ (upd H' L (.lst (acc ++ [V.bl b]))) L = some (.lst (((t1.take (i + 1)).map (bad t2)).map V.bl)) := fun H' b s' eb => by
        refine ⟨_, s' _ _ hL, by rw [List.length_map, List.length_map]; exact small1000 (Nat.le_trans (List.length_take_le _ _) (by have := S1.few; omega)), (sm.trans s').own nL, ?_⟩
        rw [upd_same, List.take_add_one, List.getElem?_eq_getElem hi1, List.map_append, List.map_append, eb]
        rfl
      refine ⟨_, _, rfl, (s13.trans sm).sqt e2, rfl, _, _, rfl, _, _, rfl, rfl, rfl, ?_⟩
      refine ⟨_, rfl, D, rfl, .inl ⟨_, .inl (sm _ _ hD)⟩, _, rfl, _, DGet.k (k := Sum.inr t1[i].1) (sm _ _ hD), ?_⟩
      rw [lookS_val]
      have isSome : ∀ o : Option Str, (o.map V.str).isSome = o.isSome := fun o => by cases o <;> rfl
      cases e : lookS t2 t1[i].1 with
      | none =>
        have eb : bad t2 t1[i] = false := by unfold bad; rw [e]
        refine ⟨rfl, _, rfl, ite0 rfl ?_⟩
        refine ⟨_, rfl, rfl, _, rfl, ite2 (fun _ => ?_) (fun _ => fin _ _ (Same.refl _) eb.symm)⟩
        refine ⟨_, rfl, _, rfl, D, _, rfl, DGet.k (k := Sum.inr t1[i].1) (sm _ _ hD), ?_⟩
        rw [lookS_val, isSome, e]
        exact fin _ _ (Same.refl _) eb.symm
      | some w =>
        have eb : bad t2 t1[i] = (decide (t1[i].2 = "w") || decide (w = "w")) := by unfold bad; rw [e]
        have es : ∀ z : Str, decide (V.str z = V.str "w") = decide (z = "w") := fun z => decide_eq_decide.mpr ⟨fun h => V.str.inj h, fun h => congrArg V.str h⟩
        refine ⟨rfl, _, rfl, ?_⟩
        show if decide (V.str w = V.str "w") = true then _ else _
        rw [es]
        refine ite2 (fun hw => fin _ _ (Same.refl _) (by rw [eb, hw, Bool.or_true])) (fun hw => ?_)
        refine ⟨_, rfl, rfl, _, rfl, ?_⟩
        rw [es]
        have hw' : decide (w = "w") = false := Bool.eq_false_iff.mpr hw
        refine ite2 (fun hz => ?_) (fun hz => fin _ _ (Same.refl _) (by rw [eb, hw', Bool.eq_false_iff.mpr hz]; rfl))
        refine ⟨_, rfl, _, rfl, D, _, rfl, DGet.k (k := Sum.inr t1[i].1) (sm _ _ hD), ?_⟩
        rw [lookS_val, isSome, e]
        exact fin _ _ (Same.refl _) (by rw [eb, hz]; rfl)
    · rintro H4 ⟨sm, hL⟩
      rw [List.length_map, len1, List.take_length] at hL
      refine ⟨L, _, rfl, sl hL, ?_⟩
      have h := q H4 (s13.trans sm)
      unfold conf at h
      rw [decide_eq_false ne12, decide_eq_false noc.1, decide_eq_false noc.2] at h
      rw [List.any_map]
      exact h
end
end T43
namespace T43
open PySem PySem.Spec PyProof.Rows L2 HX HB HG HU
section
variable {P : Program} {w : World} {K : PySem.W.Frag} {mg : Str → Option Value} {base : Heap}
theorem ok_due (T : Tp K mg) : FnOk P w K mg base CX0 1 T.f_due T.fd_due ["_law_step_here", "_law_other"] (spMeet K) := by
  refine T.D_due.F.ok sc_due (fun vs H Q E h => ?_) (fun cdv A outer s H vs Q E hr h => ?_)
  · obtain ⟨a, b, w1, w2, t1, t2, rfl, _⟩ := h
    rfl
  · obtain ⟨a, b, w1, w2, t1, t2, rfl, S1, S2, q⟩ := h
    have hu := hu_of hr
    obtain ⟨wd1, pl1, x1, h1, k1⟩ := S1.ex
    obtain ⟨wd2, pl2, x2, h2, k2⟩ := S2.ex
    refine ⟨_, (pss_cons (ps_if (PW.pt (pw_or (pt_cmpR op_eq (pe_ix ix_tup (pv 0) pe_int (fun _ _ => rfl)) (pe_ix ix_tup (pv 1) pe_int (fun _ _ => rfl)) (nomark _)) (pw_or1 (pt_cmpR op_in_seq pe_str (pe_tup (pa_cons (pe_ix ix_tup (pv 0) pe_int (fun _ _ => rfl)) (pa_cons (pe_ix ix_tup (pv 1) pe_int (fun _ _ => rfl)) pa_nil))) (by rfl)))))
  (pss_one (ps_ret pe_bl))
  pss_nil)
  (pss_cons (ps_asg (pe_tup (pa_cons (pe_callTy (call_dictT rfl) (by rfl) T.dict (by decide +kernel) (pa_cons (pe_ix ix_tup (pv 0) pe_int (fun _ _ => rfl)) pa_nil)) (pa_cons (pe_callTy (call_dictT rfl) (by rfl) T.dict (by decide +kernel) (pa_cons (pe_ix ix_tup (pv 1) pe_int (fun _ _ => rfl)) pa_nil)) pa_nil))) (pg_tup rfl (pgs_cons (pg_name (i := 2) sc_due.nd rfl (.inr rfl)) (pgs_cons (pg_name (i := 3) sc_due.nd rfl (.inr rfl)) pgs_nil))))
  (pss_one (ps_ret (pe_callB (cr_any rfl) (by rfl) T.any (by decide +kernel) (pa_cons (pe_lock (pe_lc (own := [("_law_thing", 4)]) (g := gName 4) (by rfl) sc_due.nd (pi_keys (pv 2)) (blkOk_by (own := [("_law_thing", 4)]) (N := ["_law_step_here", "_law_other", "_law_first", "_law_second", "_law_thing"]) (sc := defScope s_due) (by decide +kernel)) (fun _ _ _ _ _ => (pg_name (i := 4) sc_due.nd rfl (.inl rfl))) (fun _ _ _ _ _ => pts_nil) (fun _ _ _ _ _ => (pe_and (pe_cmp (pc_din hu (pv 4) (pv 3))) (pe_one (pe_cmpR (show OpR _ _ (rIn K false) from op_in_seq) pe_str (pe_tup (pa_cons (pe_dget hu (pv 2) (pv 4) (fun _ _ => rfl)) (pa_cons (pe_dget hu (pv 3) (pv 4) (fun _ _ => rfl)) pa_nil))) (by rfl))))))) pa_nil)))))), ?_⟩
    refine ⟨_, rfl, _, _, _, _, rfl, rfl, h1, atI_nat (j := 0) rfl, _, rfl, _, _, _, _, rfl, rfl, h2, atI_nat (j := 0) rfl, rfl, _, rfl, ?_⟩
    have early : ∀ H', Same H H' → (decide (w1 = w2) || (decide (w1 = "clock") || decide (w2 = "clock"))) = true → Q (.bl true) H' := fun H' s' e => by
      have h := q H' s'
      unfold conf at h
      rw [e] at h
      exact h
    refine ite2 (fun hw => ?_) (fun hw => ?_)
    · refine early H (Same.refl _) ?_
      have : w1 = w2 := by have := of_decide_eq_true hw; cases this; rfl
      rw [decide_eq_true this]
      rfl
    have ne12 : w1 ≠ w2 := fun e => hw (decide_eq_true (by rw [e]))
    refine ⟨_, rfl, _, _, _, _, rfl, rfl, h1, atI_nat (j := 0) rfl, _, rfl, _, _, _, _, rfl, rfl, h2, atI_nat (j := 0) rfl, by show 2 ≤ sizeLine; decide, fun p2 np2 => ?_⟩
    have s2 := same_upd (o := .tup [.str w1, .str w2]) np2
    have hp2 : (upd H p2 (.tup [.str w1, .str w2])) p2 = some (.tup [.str w1, .str w2]) := upd_same
    generalize upd H p2 (.tup [.str w1, .str w2]) = H2 at s2 hp2 ⊢
    refine ⟨p2, _, rfl, .inr (stt hp2), rfl, rfl, _, rfl, ?_⟩
    rw [if_neg Bool.false_ne_true, in_two]
    refine ite2 (fun hc => early H2 s2 (by rw [hc]; simp)) (fun hc => ?_)
    have noc : ¬ w1 = "clock" ∧ ¬ w2 = "clock" := by simpa using hc
    obtain ⟨o1, ps1, ht1, od1, hp1⟩ := k1.resolve_left noc.1
    obtain ⟨o2, ps2, ht2, od2, hpp2⟩ := k2.resolve_left noc.2
    refine ⟨_, rfl, _, _, _, _, rfl, rfl, s2.sqt h1, atI_nat (j := 3) rfl, x1, o1, ps1, dz t1, rfl, s2 _ _ ht1, od1, paired_imp (fun _ _ h => s2.sqt h) hp1, fun D nD => ?_⟩
    rw [dz_new S1.nd]
    have s3 := same_upd (o := .dK (dz t1)) nD
    have hD : (upd H2 D (.dK (dz t1))) D = some (.dK (dz t1)) := upd_same
    generalize upd H2 D (.dK (dz t1)) = H3 at s3 hD ⊢
    have s23 := s2.trans s3
    refine ⟨_, rfl, _, _, _, _, rfl, rfl, s23.sqt h2, atI_nat (j := 3) rfl, x2, o2, ps2, dz t2, rfl, s23 _ _ ht2, od2, paired_imp (fun _ _ h => s23.sqt h) hpp2, fun D2 nD2 => ?_⟩
    rw [dz_new S2.nd]
    have s4 := same_upd (o := .dK (dz t2)) nD2
    have hD2 : (upd H3 D2 (.dK (dz t2))) D2 = some (.dK (dz t2)) := upd_same
    have DD : D ≠ D2 := ne_of_none hD nD2
    have hD4 := s4 _ _ hD
    generalize upd H3 D2 (.dK (dz t2)) = H4 at s4 hD2 hD4 ⊢
    have s24 := s23.trans s4
    refine ⟨by show 2 ≤ sizeLine; decide, fun T0 nT0 => ?_⟩
    have s5 := same_upd (o := .tup [.ref D, .ref D2]) nT0
    have hT0 : (upd H4 T0 (.tup [.ref D, .ref D2])) T0 = some (.tup [.ref D, .ref D2]) := upd_same
    generalize upd H4 T0 (.tup [.ref D, .ref D2]) = H5 at s5 hT0 ⊢
    refine ⟨T0, _, rfl, stt hT0, rfl, _, _, rfl, _, _, rfl, rfl, ?_⟩
    have hD5 := s5 _ _ hD4
    have s25 := s24.trans s5
    have hD25 := s5 _ _ hD2
    -- the walk over the first dict, locked
    refine ⟨D, _, hD5, True.intro, fun od => ?_⟩
    refine ⟨_, rfl, D, od, rfl, .inl ⟨_, upd_same, fun L nL => ?_⟩⟩
    have LD : L ≠ D := fun e => by rw [e, upd_same] at nL; cases nL
    have hD2f : (upd H5 D (.frz od (.dK (dz t1)))) D2 = some (.dK (dz t2)) := by rw [upd_ne DD.symm]; exact hD25
    generalize eF : upd H5 D (.frz od (.dK (dz t1))) = HF at nL hD2f ⊢
    have hDF : HF D = some (.frz od (.dK (dz t1))) := by rw [← eF, upd_same]
    refine lc_it (walk_keys (kvs := dz t1)) (fun i H6 => Same HF H6 ∧ H6 L = some (.lst (((t1.take i).map (bad t2)).map V.bl))) ⟨same_upd nL, upd_same⟩ (fun i H6 _ g => g.1 _ _ hDF) ?_ ?_
    · rintro i x H0 H6 hi ⟨sm, hL⟩ ⟨rfl, k, v, hx, rfl⟩
      have hi1 : i < t1.length := by rw [dz, List.length_map] at hi; exact hi
      rw [dz, List.getElem?_map, List.getElem?_eq_getElem hi1] at hx
      cases hx
      have fin : ∀ H' b, Same H6 H' → b = bad t2 t1[i] → ∃ acc, H' L = some (.lst acc) ∧ acc.length < sizeLine ∧ Same HF (upd H' L (.lst (acc ++ [V.bl b]))) ∧ (upd H' L (.lst (acc ++ [V.bl b]))) L = some (.lst (((t1.take (i + 1)).map (bad t2)).map V.bl)) := fun H' b s' eb => by
        refine ⟨_, s' _ _ hL, by rw [List.length_map, List.length_map]; exact small1000 (Nat.le_trans (List.length_take_le _ _) (by have := S1.few; omega)), (sm.trans s').own nL, ?_⟩
        rw [upd_same, List.take_add_one, List.getElem?_eq_getElem hi1, List.map_append, List.map_append, eb]
        rfl
      have isSome : ∀ o : Option Str, (o.map V.str).isSome = o.isSome := fun o => by cases o <;> rfl
      refine ⟨rfl, ?_⟩
      refine ⟨_, rfl, _, rfl, D2, _, rfl, DGet.k (k := Sum.inr t1[i].1) (sm _ _ hD2f), _, rfl, ?_⟩
      rw [lookS_val, isSome]
      cases e : lookS t2 t1[i].1 with
      | none =>
        have eb : bad t2 t1[i] = false := by unfold bad; rw [e]
        exact iteF (fin _ _ (Same.refl _) eb.symm)
      | some w2' =>
        have eb : bad t2 t1[i] = (decide (t1[i].2 = "w") || decide (w2' = "w")) := by unfold bad; rw [e]
        refine iteT ?_
        have g1 : DGet H6 D (.str t1[i].1) (some (.str t1[i].2)) := .inl ⟨_, Sum.inr t1[i].1, .inr ⟨od, sm _ _ hDF⟩, rfl, by rw [lookS_val, show lookS t1 t1[i].1 = some t1[i].2 from (lookS_mem S1.nd).mpr (List.getElem_mem hi1)]; rfl⟩
        have g2 : DGet H6 D2 (.str t1[i].1) (some (.str w2')) := .inl ⟨_, Sum.inr t1[i].1, .inl (sm _ _ hD2f), rfl, by rw [lookS_val, e]; rfl⟩
        refine ⟨_, rfl, _, rfl, D, _, rfl, g1, _, rfl, _, rfl, D2, _, rfl, g2, by show 2 ≤ sizeLine; decide, fun p7 np7 => ?_⟩
        have s7 := same_upd (o := .tup [.str t1[i].2, .str w2']) np7
        refine ⟨p7, _, rfl, .inr (stt upd_same), rfl, rfl, ?_⟩
        rw [if_neg Bool.false_ne_true, in_two, ← eb]
        exact fin _ _ s7 rfl
    · rintro H6 ⟨sm, hL⟩
      rw [show (dz t1).length = t1.length from List.length_map .., List.take_length] at hL
      refine ⟨sm _ _ hDF, ?_⟩
      have sF : Same H5 (upd H6 D (.dK (dz t1))) := fun b o e => by
        by_cases eb : b = D
        · subst eb; rw [upd_same]; rw [hD5] at e; exact e
        · rw [upd_ne eb]
          refine sm b o ?_
          rw [← eF, upd_ne eb]
          exact e
      refine ⟨L, _, rfl, sl (by rw [upd_ne LD]; exact hL), ?_⟩
      have h := q _ (s25.trans sF)
      unfold conf at h
      rw [decide_eq_false ne12, decide_eq_false noc.1, decide_eq_false noc.2] at h
      rw [List.any_map]
      exact h
end
end T43
namespace T43
open PySem PySem.Spec PyProof.Rows L2 HX HB HG HU
/-! ### dicts of texts, written -/
def putZ (ts : List (Str × Str)) (k w : Str) : List (Str × Str) :=
  if (ts.any fun p => decide (p.1 = k)) = true then ts.map (fun p => if p.1 = k then (p.1, w) else p) else ts ++ [(k, w)]
theorem putZ_dz (ts : List (Str × Str)) (k w : Str) : putK (dz ts) (Sum.inr k : Key) (.str w) = dz (putZ ts k w) := by
  unfold putK putZ dz
  have e : ((ts.map fun p => ((Sum.inr p.1 : Key), V.str p.2)).any fun kv => decide (kv.1 = (Sum.inr k : Key))) = ts.any fun p => decide (p.1 = k) := by
    rw [List.any_map]
    congr 1
    funext p
    show decide ((Sum.inr p.1 : Key) = Sum.inr k) = _
    rw [key_rr]
  rw [e]
  split
  · rw [List.map_map, List.map_map]
    apply List.map_congr_left
    intro p _
    show (if (Sum.inr p.1 : Key) = Sum.inr k then _ else _) = ((Sum.inr (if p.1 = k then (p.1, w) else p).1 : Key), V.str (if p.1 = k then (p.1, w) else p).2)
    by_cases h : p.1 = k
    · rw [if_pos (congrArg Sum.inr h), if_pos h]
    · rw [if_neg (fun z => h (Sum.inr.inj z)), if_neg h]
  · rw [List.map_append]; rfl
theorem putZ_keys (ts : List (Str × Str)) (k w : Str) : (putZ ts k w).map (·.1) = if (ts.any fun p => decide (p.1 = k)) = true then ts.map (·.1) else ts.map (·.1) ++ [k] := by
  unfold putZ
  split
  · rw [List.map_map]
    apply List.map_congr_left
    intro p _
    show (if p.1 = k then (p.1, w) else p).1 = p.1
    split <;> rfl
  · rw [List.map_append]; rfl
theorem putZ_nd {ts : List (Str × Str)} (h : (ts.map (·.1)).Nodup) (k w : Str) : ((putZ ts k w).map (·.1)).Nodup := by
  rw [putZ_keys]
  split
  · exact h
  · rename_i hn
    rw [List.nodup_append]
    refine ⟨h, by simp, fun a ha b hb e => hn ?_⟩
    rw [List.mem_singleton] at hb
    obtain ⟨p, hp, rfl⟩ := List.mem_map.mp ha
    exact List.any_eq_true.mpr ⟨p, hp, decide_eq_true (e.trans hb)⟩
theorem putZ_len (ts : List (Str × Str)) (k w : Str) : (putZ ts k w).length ≤ ts.length + 1 := by
  have h := congrArg List.length (putZ_keys ts k w)
  rw [List.length_map] at h
  rw [h]
  split
  · rw [List.length_map]; omega
  · rw [List.length_append, List.length_map]; exact Nat.le_refl _
def mergeZ (ts more : List (Str × Str)) : List (Str × Str) := more.foldl (fun acc p => putZ acc p.1 p.2) ts
theorem mergeZ_dz : ∀ (more ts : List (Str × Str)), mergeK (dz ts) (dz more) = dz (mergeZ ts more)
  | [], ts => rfl
  | p :: more, ts => by
    show mergeK (putK (dz ts) (Sum.inr p.1 : Key) (.str p.2)) (dz more) = dz (mergeZ (putZ ts p.1 p.2) more)
    rw [putZ_dz, mergeZ_dz more]
theorem mergeZ_nd : ∀ (more : List (Str × Str)) {ts : List (Str × Str)}, (ts.map (·.1)).Nodup → ((mergeZ ts more).map (·.1)).Nodup
  | [], _, h => h
  | p :: more, _, h => mergeZ_nd more (putZ_nd h p.1 p.2)
theorem mergeZ_len : ∀ (more ts : List (Str × Str)), (mergeZ ts more).length ≤ ts.length + more.length
  | [], ts => Nat.le_refl _
  | p :: more, ts => by
    have h1 := mergeZ_len more (putZ ts p.1 p.2)
    have h2 := putZ_len ts p.1 p.2
    show (mergeZ (putZ ts p.1 p.2) more).length ≤ _
    rw [List.length_cons]
    omega
/-! ### a permutation of images -/
theorem perm_map {α β : Type} (f : α → β) : ∀ {zs ys : List β}, zs.Perm ys → ∀ L : List α, ys = L.map f → ∃ L' : List α, L'.Perm L ∧ zs = L'.map f := by
  intro zs ys h
  induction h with
  | nil =>
    intro L e
    cases L with
    | nil => exact ⟨[], .nil, rfl⟩
    | cons _ _ => cases e
  | cons x _ ih =>
    intro L e
    cases L with
    | nil => cases e
    | cons a L =>
      obtain ⟨e1, e2⟩ := List.cons.inj e
      obtain ⟨L', p, r⟩ := ih L e2
      exact ⟨a :: L', p.cons a, by rw [List.map_cons, ← r, ← e1]⟩
  | swap x y l =>
    intro L e
    match L, e with
    | a :: b :: L, e =>
      obtain ⟨e1, e2⟩ := List.cons.inj e
      obtain ⟨e3, e4⟩ := List.cons.inj e2
      exact ⟨b :: a :: L, List.Perm.swap a b L, by rw [List.map_cons, List.map_cons, e1, e3, e4]⟩
  | trans _ _ ih1 ih2 =>
    intro L e
    obtain ⟨L1, p1, r1⟩ := ih2 L e
    obtain ⟨L2, p2, r2⟩ := ih1 L1 r1
    exact ⟨L2, p2.trans p1, r2⟩
/-! ### pairs of texts, sorted -/
def pd (q : Addr × (Str × Str)) : V × PyData := (.ref q.1, .tuple [.str q.2.1, .str q.2.2])
theorem sort_pairs {as : List Addr} {ts : List (Str × Str)} (hl : as.length = ts.length) : ∃ L : List (Addr × (Str × Str)), L.Perm (as.zip ts) ∧ sortD (as.map V.ref) (ts.map fun p => PyData.tuple [.str p.1, .str p.2]) = (L.map (·.1)).map V.ref := by
  have e : (as.map V.ref).zip (ts.map fun p => PyData.tuple [.str p.1, .str p.2]) = (as.zip ts).map pd := by
    rw [List.zip_map]
    rfl
  obtain ⟨L, p, r⟩ := perm_map pd (List.mergeSort_perm ((as.map V.ref).zip (ts.map fun p => PyData.tuple [.str p.1, .str p.2])) (PySem.W.dataLe false (·.2))) (as.zip ts) e
  refine ⟨L, p, ?_⟩
  unfold sortD
  rw [r, List.map_map, List.map_map]
  rfl
theorem pairs_alike (ts : List (Str × Str)) : PySem.W.AllAlike (ts.map fun p => PyData.tuple [.str p.1, .str p.2]) := by
  intro d hd d' hd'
  obtain ⟨p, _, rfl⟩ := List.mem_map.mp hd
  obtain ⟨q, _, rfl⟩ := List.mem_map.mp hd'
  rfl
theorem pairs_sortable (ts : List (Str × Str)) : PySem.W.Sortable (ts.map fun p => PyData.tuple [.str p.1, .str p.2]) := by
  refine .inl fun d hd => ?_
  obtain ⟨p, _, rfl⟩ := List.mem_map.mp hd
  exact ⟨_, _, rfl⟩
theorem pairs_depth (ts : List (Str × Str)) : ∀ d ∈ ts.map (fun p => PyData.tuple [.str p.1, .str p.2]), d.depth ≤ 60 := by
  intro d hd
  obtain ⟨p, _, rfl⟩ := List.mem_map.mp hd
  simp only [PyData.depth, PyData.depthAll]
  decide
theorem paired_zip {α β : Type} {F : α → β → Prop} : ∀ {l : List α} {m : List β}, Paired F l m → ∀ q ∈ l.zip m, F q.1 q.2
  | _, _, .nil, q, h => by cases h
  | _, _, .cons x t, q, h => by
    rw [List.zip_cons_cons] at h
    rcases List.mem_cons.mp h with rfl | h
    · exact x
    · exact paired_zip t q h
theorem paired_of {α β : Type} {F : α → β → Prop} : ∀ L : List (α × β), (∀ q ∈ L, F q.1 q.2) → Paired F (L.map (·.1)) (L.map (·.2))
  | [], _ => .nil
  | q :: L, h => .cons (h q (List.mem_cons_self ..)) (paired_of L fun x hx => h x (List.mem_cons_of_mem _ hx))
theorem paired_mapR {α β γ : Type} {F : α → γ → Prop} (g : β → γ) : ∀ {l : List α} {m : List β}, Paired F l (m.map g) → Paired (fun a b => F a (g b)) l m
  | _, [], .nil => .nil
  | _, _ :: _, .cons x t => .cons x (paired_mapR g t)
theorem paired_mapR' {α β γ : Type} {F : α → γ → Prop} (g : β → γ) : ∀ {l : List α} {m : List β}, Paired (fun a b => F a (g b)) l m → Paired F l (m.map g)
  | _, _, .nil => .nil
  | _, _, .cons x t => .cons x (paired_mapR' g t)
theorem dp_pairs {K : PySem.W.Frag} {H : Hp} : ∀ {as : List Addr} {ts : List (Str × Str)}, Paired (fun (t : Addr) (p : Str × Str) => H t = some (.tup [.str p.1, .str p.2])) as ts → DpAll K H (as.map V.ref) (ts.map fun p => PyData.tuple [.str p.1, .str p.2])
  | _, _, .nil => .nil
  | _, _, .cons x t => .cons (.tup (stt x) (.cons (.str _) (.cons (.str _) .nil))) (dp_pairs t)
end T43
namespace T43
open PySem PySem.Spec PyProof.Rows L2 HX HB HG HU LiI
def whoL : List Str := ["0", "0.0", "0.1", "0.10", "0.0", "0.1", "clock"]
def scpL : List Str := ["0:0", "0:1", "0.0:0"]
def tailL : List Str := [".0", ".1", ".10"]
theorem who_len : ∀ z ∈ whoL, z.length ≤ 10 := by decide
theorem scp_len : ∀ z ∈ scpL, z.length ≤ 10 := by decide
theorem tail_len : ∀ z ∈ tailL, z.length ≤ 10 := by decide
theorem app_len (a b : Str) : (a ++ b).length = a.length + b.length := by
  show (a.cps ++ b.cps).size = a.cps.size + b.cps.size
  exact Array.size_append
/-- a dict whose values are pairs of texts -/
def Own (K : PySem.W.Frag) (H : Hp) (kvs : List (Key × V)) : Prop := ∀ e ∈ kvs, ∃ (p : Addr) (a b : Str), e.2 = .ref p ∧ SqT K H p [.str a, .str b] ∧ a.length ≤ 1000
section
variable {P : Program} {w : World} {K : PySem.W.Frag} {mg : Str → Option Value} {base : Heap} {H H' : Hp}
theorem Own.imp {kvs : List (Key × V)} (h : ∀ (p : Addr) (xs : List V), SqT K H p xs → SqT K H' p xs) (o : Own K H kvs) : Own K H' kvs := fun e he => let ⟨p, a, b, h1, h2, h3⟩ := o e he; ⟨p, a, b, h1, h _ _ h2, h3⟩
theorem Own.put {kvs : List (Key × V)} (o : Own K H kvs) {k : Key} {p : Addr} {a b : Str} (h : SqT K H p [.str a, .str b]) (hl : a.length ≤ 1000) : Own K H (putK kvs k (.ref p)) := by
  intro e he
  unfold putK at he
  split at he
  · obtain ⟨e0, h0, rfl⟩ := List.mem_map.mp he
    split
    · exact ⟨p, a, b, rfl, h, hl⟩
    · exact o e0 h0
  · rcases List.mem_append.mp he with he | he
    · exact o e he
    · rw [List.mem_singleton.mp he]; exact ⟨p, a, b, rfl, h, hl⟩
theorem Own.merge : ∀ {more kvs : List (Key × V)}, Own K H kvs → Own K H more → Own K H (mergeK kvs more)
  | [], _, h, _ => h
  | e :: more, kvs, h, hm => by
    obtain ⟨p, a, b, h1, h2, h3⟩ := hm e (List.mem_cons_self ..)
    have h4 := h.put (k := e.1) h2 h3
    rw [← h1] at h4
    show Own K H (mergeK (putK kvs e.1 e.2) more)
    exact Own.merge h4 fun x hx => hm x (List.mem_cons_of_mem _ hx)
theorem own_lt {kvs : List (Key × V)} {k : Key} {v : V} (o : Own K H kvs) (h : valV kvs k = some v) : ∃ (p : Addr) (a b : Str), v = .ref p ∧ SqT K H p [.str a, .str b] ∧ a.length ≤ 1000 := by
  unfold valV at h
  cases e : kvs.find? fun kv => decide (kv.1 = k) with
  | none => rw [e] at h; cases h
  | some q =>
    rw [e] at h
    cases h
    exact o q (List.mem_of_find?_eq_some e)
/-- a pair of texts, new -/
def PairTE (te : TE) (σ : L2.St) : Prop := ∀ (H : Hp) (Q : VK), (∀ (p : Addr) (a b : Str), H p = none → a.length ≤ 1000 → Q (.ref p) (upd H p (.tup [.str a, .str b]))) → te σ H Q
theorem pairTE {σ : L2.St} {i : Nat} {a b z : Str} (h : σ[i]? = some (some (.str z))) (hl : a.length + z.length ≤ 1000) :
    PairTE (tTup (tCons (tOp (fun x y H Q => ∃ i j, x = .str i ∧ y = .str j ∧ i.length + j.length ≤ sizeLine ∧ Q (.str (i ++ j)) H) (tC (.str a)) (tVar i)) (tCons (tC (.str b)) tNil))) σ :=
  fun H Q q => ⟨_, h, _, _, rfl, rfl, Evl.sz_of (by omega), by show 2 ≤ sizeLine; decide, fun p np => q p _ _ np (by rw [app_len]; exact hl)⟩
theorem pairTE0 {σ : L2.St} {a b : Str} (hl : a.length ≤ 1000) : PairTE (tTup (tCons (tC (.str a)) (tCons (tC (.str b)) tNil))) σ :=
  fun H Q q => ⟨by show 2 ≤ sizeLine; decide, fun p np => q p _ _ np hl⟩
theorem pairs_own {σ : L2.St} : ∀ (trs : List (TE × TE)) (H : Hp) (R : List (V × V) → Hp → Prop), (∀ e ∈ trs, ∃ k : Str, e.1 = tC (.str k) ∧ PairTE e.2 σ) →
    (∀ (kvs : List (Key × V)) (H' : Hp), Same H H' → kvs.length = trs.length → Own K H' kvs → R (kvs.map fun kv => (kV kv.1, kv.2)) H') → tPairs trs σ H R
  | [], H, R, _, q => q [] H (Same.refl H) rfl (fun _ h => by cases h)
  | e :: trs, H, R, h, q => by
    obtain ⟨k, ek, hp⟩ := h e (List.mem_cons_self ..)
    obtain ⟨e1, e2⟩ := e
    subst ek
    refine hp H _ fun p a b np hl => ?_
    have s1 := same_upd (o := .tup [.str a, .str b]) np
    refine pairs_own trs _ _ (fun x hx => h x (List.mem_cons_of_mem _ hx)) fun kvs H' s' el o => ?_
    refine q ((Sum.inr k, .ref p) :: kvs) H' (s1.trans s') (congrArg (· + 1) el) fun x hx => ?_
    rcases List.mem_cons.mp hx with rfl | hx
    · exact ⟨p, a, b, rfl, s'.sqt (stt upd_same), hl⟩
    · exact o x hx
theorem disp_own {σ : L2.St} {trs : List (TE × TE)} {H : Hp} {Q : VK} (h : ∀ e ∈ trs, ∃ k : Str, e.1 = tC (.str k) ∧ PairTE e.2 σ) (h15 : trs.length ≤ 15)
    (q : ∀ (o : Addr) (H' : Hp) (kvs : List (Key × V)), H o = none → Same H H' → H' o = some (.dK kvs) → kvs.length ≤ trs.length → Own K H' kvs → Q (.ref o) H') : tDisp trs σ H Q := by
  intro p np
  refine pairs_own (K := K) trs _ _ h fun kvs H' s' el o => ⟨s' _ _ upd_same, kvs, rfl, by omega, ?_⟩
  have s1 := same_upd (o := .dK []) np
  have s2 : Same H (upd H' p (.dK (mergeK [] kvs))) := (s1.trans s').own np
  refine q p _ (mergeK [] kvs) np s2 upd_same (Nat.le_trans (length_mergeK kvs []) (by rw [List.length_nil]; omega)) ?_
  refine Own.imp (H := H') (fun t xs ht => ?_) (Own.merge (fun _ h => by cases h) o)
  rcases ht with (ht | ⟨z, ht⟩) | ht
  · exact .inl (.inl (by rw [upd_ne (ne_of ht (s' _ _ upd_same) (by intro z; cases z))]; exact ht))
  · exact .inl (.inr ⟨z, by rw [upd_ne (ne_of ht (s' _ _ upd_same) (by intro z; cases z))]; exact ht⟩)
  · exact .inr ht
/-- how it stands in the step -/
structure Wd (H0 : Hp) (d p2 : Addr) (n : Nat) (H : Hp) : Prop where
  D : DL H d n
  hp : H p2 = some (.lst (scpL.map V.str))
  hd : p2 ≠ d
  u : U1 d H0 H
theorem Wd.same {H0 : Hp} {d p2 : Addr} {n : Nat} (W : Wd H0 d p2 n H) (s : Same H H') : Wd H0 d p2 n H' := ⟨W.D.same s, s _ _ W.hp, W.hd, W.u.trans (U1.of s)⟩
theorem Wd.draw {H0 : Hp} {d p2 : Addr} {n k : Nat} (W : Wd H0 d p2 n H) (D : DL H' d k) (u : U1 d H H') : Wd H0 d p2 k H' := ⟨D, u _ _ W.hp W.hd, W.hd, W.u.trans u⟩
/-- a dict of ours is written -/
theorem Wd.put {H0 : Hp} {d p2 : Addr} {n : Nat} (W : Wd H0 d p2 n H) {a : Addr} {kvs ks : List (Key × V)} (h : H a = some (.dK kvs)) (h0 : H0 a = none) : Wd H0 d p2 n (upd H a (.dK ks)) :=
  ⟨W.D.set (W.D.ne h fun _ z => by cases z), by rw [upd_ne (ne_of W.hp h (by intro z; cases z))]; exact W.hp, W.hd, W.u.own h0⟩
theorem Own.same {kvs : List (Key × V)} (o : Own K H kvs) (s : Same H H') : Own K H' kvs := o.imp fun _ _ h => s.sqt h
theorem Own.draw {kvs : List (Key × V)} (o : Own K H kvs) {d : Addr} {n : Nat} (D : DL H d n) (u : U1 d H H') : Own K H' kvs := o.imp fun _ _ h => u.sqt D h
theorem Own.upd {kvs ks ls : List (Key × V)} (o : Own K H kvs) {a : Addr} (h : H a = some (.dK ks)) : Own K (L2.upd H a (.dK ls)) kvs := o.imp fun t xs ht => by
  rcases ht with (ht | ⟨z, ht⟩) | ht
  · exact .inl (.inl (by rw [upd_ne (ne_of ht h (by intro z; cases z))]; exact ht))
  · exact .inl (.inr ⟨z, by rw [upd_ne (ne_of ht h (by intro z; cases z))]; exact ht⟩)
  · exact .inr ht
theorem none_back {d a : Addr} {H0 : Hp} (u : U1 d H0 H) (n : H a = none) (D : ∃ o, H d = some o) : H0 a = none := by
  cases e : H0 a with
  | none => rfl
  | some o =>
    by_cases ed : a = d
    · subst ed; obtain ⟨_, h⟩ := D; rw [n] at h; cases h
    · have := u _ _ e ed; rw [n] at this; cases this
theorem drop_own {H0 : Hp} {d p2 o1 : Addr} {n i : Nat} {σ : L2.St} {kvs : List (Key × V)} {trs : List (TE × TE)} {D : Ends} (W : Wd H0 d p2 n H) (n0 : H0 o1 = none) (hσ : σ[i]? = some (some (.ref o1))) (ho : H o1 = some (.dK kvs)) (ow : Own K H kvs)
    (h : ∀ e ∈ trs, ∃ k : Str, e.1 = tC (.str k) ∧ PairTE e.2 σ) (h15 : trs.length ≤ 15) (hl : kvs.length ≤ 100)
    (q : ∀ (H' : Hp) (kvs' : List (Key × V)), Wd H0 d p2 n H' → H' o1 = some (.dK kvs') → kvs'.length ≤ kvs.length + trs.length → Own K H' kvs' → D.nx σ H') : tDrop (tDUpd (tVar i) (tDisp trs)) D σ H := by
  refine ⟨_, hσ, o1, rfl, .inl ⟨_, .inl ho⟩, ?_⟩
  refine disp_own (K := K) h h15 fun o2 H2 more no2 s2 hx lm om => ?_
  have ho2 := s2 _ _ ho
  refine ⟨o2, kvs, more, rfl, ne_of_none ho no2, ho2, hx, Evl.sz_of (by omega), ?_⟩
  refine q _ (mergeK kvs more) ((W.same s2).put ho2 n0) upd_same (Nat.le_trans (length_mergeK more kvs) (by omega)) ?_
  exact Own.upd (Own.merge (ow.same s2) om) ho2
/-- the two dicts of the step -/
structure Md (K : PySem.W.Frag) (H0 : Hp) (d p2 o1 t1 : Addr) (kv : List (Key × V)) (n l : Nat) (H : Hp) : Prop where
  W : Wd H0 d p2 n H
  ow : Own K H kv
  ho : H o1 = some (.dK kv)
  ex : ∃ ts : List (Str × Str), H t1 = some (.dK (dz ts)) ∧ (ts.map (·.1)).Nodup ∧ ts.length ≤ l
theorem Md.same {H0 : Hp} {d p2 o1 t1 : Addr} {kv : List (Key × V)} {n l : Nat} (M : Md K H0 d p2 o1 t1 kv n l H) (s : Same H H') : Md K H0 d p2 o1 t1 kv n l H' :=
  ⟨M.W.same s, M.ow.same s, s _ _ M.ho, let ⟨ts, h1, h2⟩ := M.ex; ⟨ts, s _ _ h1, h2⟩⟩
theorem Md.draw {H0 : Hp} {d p2 o1 t1 : Addr} {kv : List (Key × V)} {n k l : Nat} (M : Md K H0 d p2 o1 t1 kv n l H) (D : DL H' d k) (u : U1 d H H') : Md K H0 d p2 o1 t1 kv k l H' :=
  ⟨M.W.draw D u, M.ow.draw M.W.D u, u.dk M.W.D M.ho, let ⟨ts, h1, h2⟩ := M.ex; ⟨ts, u.dk M.W.D h1, h2⟩⟩
theorem Md.mono {H0 : Hp} {d p2 o1 t1 : Addr} {kv : List (Key × V)} {n k l j : Nat} (M : Md K H0 d p2 o1 t1 kv n l H) (h : n ≤ k) (h2 : l ≤ j) : Md K H0 d p2 o1 t1 kv k j H :=
  ⟨⟨M.W.D.mono h, M.W.hp, M.W.hd, M.W.u⟩, M.ow, M.ho, let ⟨ts, h1, h3, h4⟩ := M.ex; ⟨ts, h1, h3, Nat.le_trans h4 h2⟩⟩
theorem Md.put {H0 : Hp} {d p2 o1 t1 : Addr} {kv : List (Key × V)} {n l k : Nat} (M : Md K H0 d p2 o1 t1 kv n l H) (ot : o1 ≠ t1) (n0 : H0 t1 = none) {ts : List (Str × Str)} (hn : (ts.map (·.1)).Nodup) (hl : ts.length ≤ k) : Md K H0 d p2 o1 t1 kv n k (L2.upd H t1 (.dK (dz ts))) := by
  obtain ⟨ts0, h1, _⟩ := M.ex
  exact ⟨M.W.put h1 n0, M.ow.upd h1, by rw [upd_ne ot]; exact M.ho, ts, upd_same, hn, hl⟩
theorem seq_drop {te : TE} {t2 : TS} {D : Ends} {σ : L2.St} {H : Hp} (h : tDrop te { D with nx := t2 D } σ H) : tSeq (tDrop te) t2 D σ H := h
theorem seq_asg {te : TE} {g : TG} {t2 : TS} {D : Ends} {σ : L2.St} {H : Hp} (h : te σ H fun x H1 => g x σ H1 fun σ' H' => t2 D σ' H') : tSeq (tAsg te g) t2 D σ H := h
def spStep (K : PySem.W.Frag) : Sp := fun vs H Q _ => ∃ (d wl : Addr) (m : Nat) (nm : Str) (ws : List Str), vs = [.ref d, .str nm, .ref wl] ∧ DL H d m ∧ m + 20 ≤ 600 ∧ nm.length ≤ 100 ∧ H wl = some (.lst (ws.map V.str)) ∧ wl ≠ d ∧ ws ≠ [] ∧ ws.length ≤ 1000 ∧
  ∀ (a : Addr) (who : Str) (ts : List (Str × Str)) (H' : Hp), Stp K H' a who ts → DL H' d (m + 20) → U1 d H H' → Q (.ref a) H'
theorem ok_step (T : Tp K mg) : FnOk P w K mg base CX0 3 T.f_step T.fd_step ["_law_draw", "_law_name", "_law_words"] (spStep K) := by
  refine T.D_step.F.ok sc_step (fun vs H Q E h => ?_) (fun cdv A outer s H vs Q E hr h => ?_)
  · obtain ⟨d, wl, m, nm, ws, rfl, _⟩ := h
    rfl
  · obtain ⟨d, wl, m, nm, ws, rfl, D, hm, hnm, hwl, wld, wsn, wsl, q⟩ := h
    have hu := hu_of hr
    refine ⟨_, (pss_cons (ps_par (i := 3) (j := 4) rfl sc_step.nd rfl rfl (by decide) rfl rfl (pa_cons (pcall T.D_pick (ok_pick T) hr (by rfl) (pa_cons (pv 0) (pa_cons (pe_lst (pa_cons pe_str (pa_cons pe_str (pa_cons pe_str (pa_cons pe_str (pa_cons pe_str (pa_cons pe_str (pa_cons pe_str pa_nil)))))))) pa_nil))) (pa_cons (pe_lst (pa_cons pe_str (pa_cons pe_str (pa_cons pe_str pa_nil)))) pa_nil)) (by rfl))
  (pss_cons (ps_if (pt_cmpR op_eq (pv 3) pe_str (nomark _))
  (pss_one (ps_ret (pe_tup (pa_cons (pv 3) (pa_cons pe_str (pa_cons pe_non (pa_cons (pe_tup (pa_cons (pe_tup (pa_cons pe_str (pa_cons pe_str pa_nil))) pa_nil)) pa_nil)))))))
  pss_nil)
  (pss_cons (ps_par3 (i := 5) (j := 6) (l := 7) rfl sc_step.nd rfl rfl rfl (by decide) (by decide) (by decide) rfl rfl rfl (pa_cons (pcall T.D_pick (ok_pick T) hr (by rfl) (pa_cons (pv 0) (pa_cons (pv 2) pa_nil))) (pa_cons (pcall T.D_pick (ok_pick T) hr (by rfl) (pa_cons (pv 0) (pa_cons (pe_lst (pa_cons (pv 1) (pa_cons (pe_op op_add_str (pe_slice sl_str (pv 1) po_none (po_some pe_int)) pe_str) pa_nil))) pa_nil))) (pa_cons (pcall T.D_pick (ok_pick T) hr (by rfl) (pa_cons (pv 0) (pa_cons (pv 4) pa_nil))) pa_nil))) (by rfl))
  (pss_cons (ps_set (i := 8) sc_step.nd rfl (.inl rfl) (pe_disp (pps_cons pe_str (pe_tup (pa_cons (pe_op op_add_str pe_str (pv 6)) (pa_cons pe_str pa_nil))) (pps_cons pe_str (pe_tup (pa_cons (pe_op op_add_str pe_str (pv 6)) (pa_cons pe_str pa_nil))) (pps_cons pe_str (pe_tup (pa_cons pe_str (pa_cons pe_str pa_nil))) pps_nil))) (by rfl) (by rfl) (fun z => by cases z) (by decide)))
  (pss_cons (ps_expr (pe_dupd (pv 8) (pe_disp (pps_cons pe_str (pe_tup (pa_cons (pe_op op_add_str (pe_op op_add_str pe_str (pv 3)) (pcall T.D_pick (ok_pick T) hr (by rfl) (pa_cons (pv 0) (pa_cons (pe_lst (pa_cons pe_str (pa_cons pe_str (pa_cons pe_str pa_nil)))) pa_nil)))) (pa_cons pe_str pa_nil))) (pps_cons pe_str (pe_tup (pa_cons (pe_op op_add_str pe_str (pv 7)) (pa_cons pe_str pa_nil))) pps_nil)) (by rfl) (by rfl) (fun z => by cases z) (by decide)) ⟨by rfl, by rfl, by rfl, by rfl⟩))
  (pss_cons (ps_expr (pe_dupd (pv 8) (pe_disp (pps_cons pe_str (pe_tup (pa_cons (pe_op op_add_str pe_str (pv 6)) (pa_cons pe_str pa_nil))) (pps_cons pe_str (pe_tup (pa_cons (pe_op op_add_str pe_str (pv 6)) (pa_cons pe_str pa_nil))) (pps_cons pe_str (pe_tup (pa_cons (pe_op op_add_str pe_str (pv 6)) (pa_cons pe_str pa_nil))) pps_nil))) (by rfl) (by rfl) (fun z => by cases z) (by decide)) ⟨by rfl, by rfl, by rfl, by rfl⟩))
  (pss_cons (ps_expr (pe_dupd (pv 8) (pe_disp (pps_cons pe_str (pe_tup (pa_cons (pe_op op_add_str pe_str (pv 6)) (pa_cons pe_str pa_nil))) (pps_cons pe_str (pe_tup (pa_cons (pe_op op_add_str pe_str (pv 7)) (pa_cons pe_str pa_nil))) (pps_cons pe_str (pe_tup (pa_cons (pe_op op_add_str pe_str (pv 7)) (pa_cons pe_str pa_nil))) pps_nil))) (by rfl) (by rfl) (fun z => by cases z) (by decide)) ⟨by rfl, by rfl, by rfl, by rfl⟩))
  (pss_cons (ps_set (i := 9) sc_step.nd rfl (.inl rfl) (pe_disp (pps_cons (pe_op op_add_str pe_str (pv 3)) pe_str pps_nil) (by rfl) (by rfl) (fun z => by cases z) (by decide)))
  (Evl.pss_cut (ps_if (pt_cmpR op_in_seq (pv 5) (pe_tup (pa_cons pe_str (pa_cons pe_str (pa_cons pe_str (pa_cons pe_str (pa_cons pe_str (pa_cons pe_str pa_nil))))))) (by rfl))
  (pss_one (ps_for PassesOwn.never rfl (pi_range1 (by rfl) T.range (pa_cons (pcall T.D_next (ok_next T) (hr.mono (by decide)) (by rfl) (pa_cons (pv 0) (pa_cons pe_int pa_nil))) pa_nil)) (pg_name (i := 10) sc_step.nd rfl (.inl rfl))
  (pss_one (ps_dput hu (pv 9) (pe_op op_add_str pe_str (pcall T.D_pick (ok_pick T) hr (by rfl) (pa_cons (pv 0) (pa_cons (pv 4) pa_nil)))) pe_str rfl))))
  pss_nil)
  (Evl.pss_cut (ps_if (pt_cmpR op_eq (pv 5) pe_str (nomark _))
  (pss_cons (ps_dput hu (pv 9) (pe_op op_add_str pe_str (pv 7)) pe_str rfl)
  (pss_one (ps_expr (pe_dupd (pv 9) (pe_ix ix_list (pe_lst (pa_cons pe_dnewK (pa_cons (pe_disp (pps_cons (pe_op op_add_str pe_str (pv 7)) pe_str pps_nil) (by rfl) (by rfl) (fun z => by cases z) (by decide)) pa_nil))) (pcall T.D_next (ok_next T) (hr.mono (by decide)) (by rfl) (pa_cons (pv 0) (pa_cons pe_int pa_nil))) (fun _ _ => rfl)) ⟨by rfl, by rfl, by rfl, by rfl⟩))))
  pss_nil)
  (pss_cons (ps_expr (pe_dupd (pv 9) (pe_callTy (call_dictP rfl) (by rfl) T.dict (by decide +kernel) (pa_cons (pe_ifExp (pt_cmp (pc_din hu (pv 5) (pv 8))) (pe_lst (pa_cons (pe_dget hu (pv 8) (pv 5) (fun _ _ => rfl)) pa_nil)) (pe_lst pa_nil)) pa_nil)) ⟨by rfl, by rfl, by rfl, by rfl⟩))
  (Evl.pss_cut (ps_set (i := 11) sc_step.nd rfl (.inl rfl) (pe_ifExp (pt_cmpR op_eq (pv 5) pe_str (nomark _)) pe_non (pe_tup (pa_cons (pcall T.D_next (ok_next T) (hr.mono (by decide)) (by rfl) (pa_cons (pv 0) (pa_cons pe_int pa_nil))) pa_nil))))
  (pss_one (ps_ret (pe_tup (pa_cons (pv 3) (pa_cons (pv 5) (pa_cons (pv 11) (pa_cons (pe_callTy call_tupP (by rfl) T.tuple (by decide +kernel) (pa_cons (pe_callB (cr_sortD hr.units) (by rfl) T.sorted (by decide +kernel) (pa_cons (pe_listItems rfl (pv 9) (by rfl) T.list (by decide +kernel)) pa_nil)) pa_nil)) pa_nil))))))))))))))))))), ?_⟩
    -- who
    refine ⟨_, rfl, by show 7 ≤ sizeLine; decide, fun p1 np1 => ?_⟩
    have s1 := same_upd (o := .lst (whoL.map V.str)) np1
    have hp1 : (upd H p1 (.lst (whoL.map V.str))) p1 = some (.lst (whoL.map V.str)) := upd_same
    have p1d := D.apart np1
    have D1 := D.same s1
    have u1 : U1 d H (upd H p1 (.lst (whoL.map V.str))) := U1.of s1
    have k1 := fun (H' : Hp) (u : U1 d (upd H p1 (.lst (whoL.map V.str))) H') => u _ _ hp1 p1d
    have wl1 := s1 _ _ hwl
    refine ⟨d, m, .ref p1, whoL.map V.str, rfl, D1, by omega, fun H' u => .inl ⟨p1, rfl, sl (k1 H' u)⟩, by decide, by decide, fun v H2 hv D2 u2 => ?_⟩
    obtain ⟨who, hwho, rfl⟩ := List.mem_map.mp hv
    have lwho := who_len _ hwho
    have u12 := u1.trans u2
    have wl2 := u2 _ _ wl1 wld
    clear k1 hv hp1 wl1 u1 u2 s1 np1 p1d D1
    -- scopes
    refine ⟨by show 3 ≤ sizeLine; decide, fun p2 np2 => ?_⟩
    have s3 := same_upd (o := .lst (scpL.map V.str)) np2
    have hp2 : (upd H2 p2 (.lst (scpL.map V.str))) p2 = some (.lst (scpL.map V.str)) := upd_same
    have p2d := D2.apart np2
    have D3 := D2.same s3
    have u3 : U1 d H (upd H2 p2 (.lst (scpL.map V.str))) := u12.trans (U1.of s3)
    have wl3 := s3 _ _ wl2
    refine ⟨_, _, rfl, ?_⟩
    show tSeq _ _ _ _ (upd H2 p2 (.lst (scpL.map V.str)))
    generalize upd H2 p2 (.lst (scpL.map V.str)) = H3 at hp2 D3 u3 wl3 ⊢
    clear u12 wl2 s3 np2 D2
    -- the clock
    refine ⟨_, rfl, rfl, _, rfl, ite2 (fun hc => ?_) (fun hc => ?_)⟩
    · have ec : who = "clock" := by have := of_decide_eq_true hc; cases this; rfl
      refine ⟨_, rfl, by show 2 ≤ sizeLine; decide, fun q1 nq1 => ⟨by show 1 ≤ sizeLine; decide, fun q2 nq2 => ⟨by show 4 ≤ sizeLine; decide, fun q3 nq3 => ?_⟩⟩⟩
      have s4 := ((same_upd (o := .tup [.str "clock", .str "w"]) nq1).trans (same_upd (o := .tup [.ref q1]) nq2)).trans (same_upd (o := .tup [.str who, .str "clock", .non, .ref q2]) nq3)
      exact q q3 who [] _ ⟨⟨_, _, _, stt upd_same, .inl ec⟩, List.nodup_nil, Nat.zero_le _⟩ ((D3.same s4).mono (by omega)) (u3.trans (U1.of s4))
    -- word
    refine ⟨_, rfl, _, rfl, d, m + 1, .ref wl, ws.map V.str, rfl, D3, by omega, fun H' u => .inl ⟨wl, rfl, sl (u _ _ wl3 wld)⟩, by simpa using wsn, by rw [List.length_map]; exact wsl, fun v H4 hv D4 u4 => ?_⟩
    obtain ⟨word, _, rfl⟩ := List.mem_map.mp hv
    have hp4 := u4 _ _ hp2 p2d
    have u34 := u3.trans u4
    clear hv u3 u4 hp2 wl3
    -- plain
    refine ⟨_, rfl, _, rfl, _, rfl, 5, rfl, nm, rfl, Evl.sz_of (by omega), _, _, rfl, rfl, Evl.sz_of ?_, by show 2 ≤ sizeLine; decide, fun p5 np5 => ?_⟩
    · have := cutS_length nm none (some 5)
      show _ + 1 ≤ _
      omega
    have lnx : (cutS nm none (some 5) ++ ("x" : Str)).length ≤ 110 := by
      rw [app_len]
      have := cutS_length nm none (some 5)
      show _ + 1 ≤ _
      omega
    generalize (cutS nm none (some 5) ++ ("x" : Str)) = nx at lnx ⊢
    have s5 := same_upd (o := .lst [.str nm, .str nx]) np5
    have hp5 : (upd H4 p5 (.lst [.str nm, .str nx])) p5 = some (.lst [.str nm, .str nx]) := upd_same
    have p5d := D4.apart np5
    have D5 := D4.same s5
    have hp4' := s5 _ _ hp4
    have u35 := u34.trans (U1.of s5)
    generalize upd H4 p5 (.lst [.str nm, .str nx]) = H5 at hp5 D5 hp4' u35 ⊢
    clear s5 np5 D4 hp4 u34
    refine ⟨d, m + 2, .ref p5, [nm, nx].map V.str, rfl, D5, by omega, fun H' u => .inl ⟨p5, rfl, sl (u _ _ hp5 p5d)⟩, by simp, by simp, fun v H6 hv D6 u6 => ?_⟩
    obtain ⟨pln, hpln, rfl⟩ := List.mem_map.mp hv
    have lpln : pln.length ≤ 110 := by
      rcases List.mem_cons.mp hpln with rfl | h
      · omega
      · rw [List.mem_singleton.mp h]; exact lnx
    have hp6 := u6 _ _ hp4' p2d
    have u36 := u35.trans u6
    clear hv hpln hp5 p5d D5 hp4' u35 u6
    -- scope
    refine ⟨_, rfl, _, rfl, d, m + 3, .ref p2, scpL.map V.str, rfl, D6, by omega, fun H' u => .inl ⟨p2, rfl, sl (u _ _ hp6 p2d)⟩, by decide, by decide, fun v H7 hv D7 u7 => ?_⟩
    obtain ⟨scp, hscp, rfl⟩ := List.mem_map.mp hv
    have lscp := scp_len _ hscp
    have hp7 := u7 _ _ hp6 p2d
    have u37 := u36.trans u7
    clear hv hscp hp6 u36 u7 D6
    refine ⟨_, _, _, rfl, ?_⟩
    have W7 : Wd H d p2 (m + 4) H7 := ⟨D7, hp7, p2d, u37⟩
    clear D7 hp7 u37
    -- own
    have l9 : ∀ {n : Nat}, n ≤ 110 → ∀ {k : Nat}, k ≤ 100 → k + n ≤ 1000 := fun h1 _ h2 => by omega
    dsimp only
    refine seq_asg ?_
    refine disp_own (K := K) (fun e he => ?_) ?_ fun o1 H8 kv1 no1 s8 ho1 lo1 ow1 => ?_
    · simp only [List.mem_cons, List.not_mem_nil, or_false] at he
      rcases he with rfl | rfl | rfl
      · exact ⟨_, rfl, pairTE rfl (l9 lpln (by decide))⟩
      · exact ⟨_, rfl, pairTE rfl (l9 lpln (by decide))⟩
      · exact ⟨_, rfl, pairTE0 (by decide)⟩
    · show 3 ≤ 15
      decide
    have no : H o1 = none := none_back W7.u no1 (let ⟨x, y, z, e, _⟩ := W7.D; ⟨_, e⟩)
    have W8 := W7.same s8
    have lo1 : kv1.length ≤ 3 := lo1
    clear s8 no1 W7
    -- start and off
    refine ⟨_, rfl, o1, rfl, .inl ⟨_, .inl ho1⟩, fun o2 no2 => ?_⟩
    have s9 := same_upd (o := .dK []) no2
    have no2' : H o2 = none := none_back W8.u no2 (let ⟨x, y, z, e, _⟩ := W8.D; ⟨_, e⟩)
    have W9 := W8.same s9
    have ow9 := ow1.same s9
    have ho9 := s9 _ _ ho1
    have hx9 : (upd H8 o2 (.dK [])) o2 = some (.dK []) := upd_same
    have o12 : o1 ≠ o2 := ne_of_none ho1 no2
    generalize upd H8 o2 (.dK []) = H9 at W9 ow9 ho9 hx9 ⊢
    clear s9 W8 ow1 ho1 no2
    refine ⟨_, rfl, _, _, rfl, rfl, Evl.sz_of (Nat.le_trans (Nat.add_le_add_left lwho _) (by decide)), _, rfl, by show 3 ≤ sizeLine; decide, fun p10 np10 => ?_⟩
    have s10 := same_upd (o := .lst (tailL.map V.str)) np10
    have hp10 : (upd H9 p10 (.lst (tailL.map V.str))) p10 = some (.lst (tailL.map V.str)) := upd_same
    have p10d := W9.D.apart np10
    have W10 := W9.same s10
    have k10 := fun (H' : Hp) (u : U1 d (upd H9 p10 (.lst (tailL.map V.str))) H') => u _ _ hp10 p10d
    refine ⟨d, m + 4, .ref p10, tailL.map V.str, rfl, W10.D, by omega, fun H' u => .inl ⟨p10, rfl, sl (k10 H' u)⟩, by decide, by decide, fun v H11 hv D11 u11 => ?_⟩
    obtain ⟨tl, htl, rfl⟩ := List.mem_map.mp hv
    have ltl := tail_len _ htl
    have W11 := W10.draw D11 u11
    have ow11 := (ow9.same s10).draw W10.D u11
    have ho11 := u11.dk W10.D (s10 _ _ ho9)
    have hx11 := u11.dk W10.D (s10 _ _ hx9)
    clear k10 hp10 p10d W10 s10 W9 ow9 ho9 hx9 hv htl D11 u11 np10
    refine ⟨_, _, rfl, rfl, Evl.sz_of ?_, by show 2 ≤ sizeLine; decide, fun p12 np12 => ?_⟩
    · rw [app_len]
      exact Nat.le_trans (Nat.add_le_add (Nat.add_le_add_left lwho _) ltl) (by decide)
    have lt12 : (("task " : Str) ++ who ++ tl).length ≤ 1000 := by
      rw [app_len, app_len]
      exact Nat.le_trans (Nat.add_le_add (Nat.add_le_add_left lwho _) ltl) (by decide)
    have s12 := same_upd (o := .tup [.str (("task " : Str) ++ who ++ tl), .str "w"]) np12
    have h12 : (upd H11 p12 (.tup [.str (("task " : Str) ++ who ++ tl), .str "w"])) p12 = some (.tup [.str (("task " : Str) ++ who ++ tl), .str "w"]) := upd_same
    have W12 := W11.same s12
    have ow12 := ow11.same s12
    have ho12 := s12 _ _ ho11
    have hx12 := s12 _ _ hx11
    generalize upd H11 p12 (.tup [.str (("task " : Str) ++ who ++ tl), .str "w"]) = H12 at h12 W12 ow12 ho12 hx12 ⊢
    clear s12 W11 ow11 ho11 hx11 np12
    refine ⟨_, rfl, _, _, rfl, rfl, Evl.sz_of (Nat.le_trans (Nat.add_le_add_left lscp _) (by decide)), by show 2 ≤ sizeLine; decide, fun p13 np13 => ?_⟩
    have s13 := same_upd (o := .tup [.str (("scope " : Str) ++ scp), .str "w"]) np13
    have h13 : (upd H12 p13 (.tup [.str (("scope " : Str) ++ scp), .str "w"])) p13 = some (.tup [.str (("scope " : Str) ++ scp), .str "w"]) := upd_same
    have W13 := W12.same s13
    have ow13 := ow12.same s13
    have ho13 := s13 _ _ ho12
    have hx13 := s13 _ _ hx12
    have h12' := s13 _ _ h12
    generalize upd H12 p13 (.tup [.str (("scope " : Str) ++ scp), .str "w"]) = H13 at h13 W13 ow13 ho13 hx13 h12' ⊢
    clear s13 W12 ow12 ho12 hx12 np13 h12
    refine ⟨hx13, [(Sum.inr "start", .ref p12), (Sum.inr "off", .ref p13)], rfl, by show 2 ≤ 15; decide, ?_⟩
    have H14n := W13.put (ks := mergeK [] [(Sum.inr "start", .ref p12), (Sum.inr "off", .ref p13)]) hx13 no2'
    have ow14 := ow13.upd (ls := mergeK [] [(Sum.inr "start", .ref p12), (Sum.inr "off", .ref p13)]) hx13
    have two : Own K H13 (mergeK [] [((Sum.inr "start" : Key), V.ref p12), (Sum.inr "off", .ref p13)]) := by
      refine Own.merge (fun _ h => by cases h) fun e he => ?_
      simp only [List.mem_cons, List.not_mem_nil, or_false] at he
      rcases he with rfl | rfl
      · exact ⟨p12, _, _, rfl, stt h12', lt12⟩
      · exact ⟨p13, _, _, rfl, stt h13, by rw [app_len]; exact Nat.le_trans (Nat.add_le_add_left lscp _) (by decide)⟩
    have two14 := two.upd (ls := mergeK [] [(Sum.inr "start", .ref p12), (Sum.inr "off", .ref p13)]) hx13
    have ho14 : (upd H13 o2 (.dK (mergeK [] [(Sum.inr "start", .ref p12), (Sum.inr "off", .ref p13)]))) o1 = some (.dK kv1) := by rw [upd_ne o12]; exact ho13
    have hx14 : (upd H13 o2 (.dK (mergeK [] [(Sum.inr "start", .ref p12), (Sum.inr "off", .ref p13)]))) o2 = some (.dK (mergeK [] [(Sum.inr "start", .ref p12), (Sum.inr "off", .ref p13)])) := upd_same
    generalize upd H13 o2 (.dK (mergeK [] [(Sum.inr "start", .ref p12), (Sum.inr "off", .ref p13)])) = H14 at H14n ow14 two14 ho14 hx14 ⊢
    have l2 : (mergeK [] [((Sum.inr "start" : Key), V.ref p12), (Sum.inr "off", .ref p13)]).length ≤ 2 := length_mergeK _ []
    generalize mergeK [] [((Sum.inr "start" : Key), V.ref p12), (Sum.inr "off", .ref p13)] = m2 at two14 hx14 l2 ⊢
    refine ⟨o2, kv1, m2, rfl, o12, ho14, hx14, Evl.sz_of (by omega), ?_⟩
    have W15 := H14n.put (ks := mergeK kv1 m2) ho14 no
    have ow15 := (Own.merge ow14 two14).upd (ls := mergeK kv1 m2) ho14
    have ho15 : (upd H14 o1 (.dK (mergeK kv1 m2))) o1 = some (.dK (mergeK kv1 m2)) := upd_same
    have l15 : (mergeK kv1 m2).length ≤ 5 := Nat.le_trans (length_mergeK m2 kv1) (by omega)
    generalize mergeK kv1 m2 = kv15 at W15 ow15 ho15 l15 ⊢
    dsimp only
    generalize upd H14 o1 (.dK kv15) = H15 at W15 ow15 ho15 ⊢
    clear H14n ow14 two14 ho14 hx14 two hx13 ho13 ow13 W13 h12' h13 lt12 l2 lo1 no2' o12
    refine seq_drop (drop_own W15 no rfl ho15 ow15 (fun e he => ?_) ?_ (by omega) fun H16 kv16 W16 ho16 l16 ow16 => ?_)
    · simp only [List.mem_cons, List.not_mem_nil, or_false] at he
      rcases he with rfl | rfl | rfl
      · exact ⟨_, rfl, pairTE rfl (l9 lpln (by decide))⟩
      · exact ⟨_, rfl, pairTE rfl (l9 lpln (by decide))⟩
      · exact ⟨_, rfl, pairTE rfl (l9 lpln (by decide))⟩
    · show 3 ≤ 15
      decide
    have l16 : kv16.length ≤ kv15.length + 3 := l16
    refine seq_drop (drop_own W16 no rfl ho16 ow16 (fun e he => ?_) ?_ (by omega) fun H17 kv17 W17 ho17 l17 ow17 => ?_)
    · simp only [List.mem_cons, List.not_mem_nil, or_false] at he
      rcases he with rfl | rfl | rfl
      · exact ⟨_, rfl, pairTE rfl (l9 lpln (by decide))⟩
      · exact ⟨_, rfl, pairTE rfl (l9 (Nat.le_trans lscp (by decide)) (by decide))⟩
      · exact ⟨_, rfl, pairTE rfl (l9 (Nat.le_trans lscp (by decide)) (by decide))⟩
    · show 3 ≤ 15
      decide
    have l17' : kv17.length ≤ 11 := Nat.le_trans (show kv17.length ≤ kv16.length + 3 from l17) (by omega)
    clear l17 l16 lo1
    clear W15 W16 ho15 ho16 ow15 ow16
    -- touched
    dsimp only
    refine seq_asg ?_
    refine fun t1 nt1 => ?_
    have nt0 : H t1 = none := none_back W17.u nt1 (let ⟨x, y, z, e, _⟩ := W17.D; ⟨_, e⟩)
    have s18 := same_upd (o := .dK []) nt1
    have W18 := W17.same s18
    have ow18 := ow17.same s18
    have ho18 := s18 _ _ ho17
    have ht18 : (upd H17 t1 (.dK [])) t1 = some (.dK []) := upd_same
    have ot : o1 ≠ t1 := ne_of_none ho17 nt1
    generalize upd H17 t1 (.dK []) = H18 at W18 ow18 ho18 ht18 ⊢
    refine ⟨_, rfl, _, _, rfl, rfl, Evl.sz_of (Nat.le_trans (Nat.add_le_add_left lwho _) (by decide)), ht18, [(Sum.inr (("task " : Str) ++ who), .str "w")], rfl, by show 1 ≤ 15; decide, ?_⟩
    have ez : mergeK [] [((Sum.inr (("task " : Str) ++ who) : Key), V.str "w")] = dz [(("task " : Str) ++ who, "w")] := rfl
    rw [ez]
    have W19 := W18.put (ks := dz [(("task " : Str) ++ who, "w")]) ht18 nt0
    have ow19 := ow18.upd (ls := dz [(("task " : Str) ++ who, "w")]) ht18
    have ho19 : (upd H18 t1 (.dK (dz [(("task " : Str) ++ who, "w")]))) o1 = some (.dK kv17) := by rw [upd_ne ot]; exact ho18
    have ht19 : (upd H18 t1 (.dK (dz [(("task " : Str) ++ who, "w")]))) t1 = some (.dK (dz [(("task " : Str) ++ who, "w")])) := upd_same
    dsimp only [gName]
    generalize upd H18 t1 (.dK (dz [(("task " : Str) ++ who, "w")])) = H19 at W19 ow19 ho19 ht19 ⊢
    clear s18 W18 ow18 ho18 ht18 W17 ow17 ho17 nt1
    have M19 : Md K H d p2 o1 t1 kv17 (m + 5) 1 H19 := ⟨W19, ow19, ho19, _, ht19, by simp, Nat.le_refl _⟩
    clear W19 ow19 ho19 ht19
    refine ⟨fun σ H2 => (∃ y10 y11, σ = [some (V.ref d), some (.str nm), some (.ref wl), some (.str who), some (.ref p2), some (.str word), some (.str pln), some (.str scp), some (.ref o1), some (.ref t1), y10, y11]) ∧ Md K H d p2 o1 t1 kv17 (m + 8) 3 H2, ?_, ?_⟩
    · refine ⟨_, rfl, by show 6 ≤ sizeLine; decide, fun q1 nq1 => ?_⟩
      have s20 := same_upd (o := .tup [.str "send", .str "take", .str "hold", .str "rest", .str "leave", .str "cut"]) nq1
      have M20 := M19.same s20
      refine ⟨q1, _, rfl, .inr (stt upd_same), rfl, rfl, _, rfl, ite2 (fun _ => ?_) (fun _ => ⟨⟨_, _, rfl⟩, M20.mono (by omega) (by omega)⟩)⟩
      refine ⟨_, rfl, d, m + 5, 3, rfl, M20.W.D, by omega, by decide, by decide, fun r H21 r0 r1 D21 u21 => ?_⟩
      have M21 := M20.draw D21 u21
      refine ⟨r, rfl, by omega, by omega, for_range (lo := 0) (n := r.toNat) (fun i σ H2 => (∃ y10 y11, σ = [some (V.ref d), some (.str nm), some (.ref wl), some (.str who), some (.ref p2), some (.str word), some (.str pln), some (.str scp), some (.ref o1), some (.ref t1), y10, y11]) ∧ Md K H d p2 o1 t1 kv17 (m + 6 + i) (1 + i) H2) ?_ ?_ ?_⟩
      · exact ⟨⟨_, _, rfl⟩, M21⟩
      · rintro i σ H2 hi ⟨⟨y10, y11, rfl⟩, M2⟩
        refine ⟨_, rfl, _, rfl, _, rfl, d, m + 6 + i, .ref p2, scpL.map V.str, rfl, M2.W.D, by omega, fun H' u => .inl ⟨p2, rfl, sl (u _ _ M2.W.hp p2d)⟩, by decide, by decide, fun v H3 hv D3 u3 => ?_⟩
        obtain ⟨sc, hsc, rfl⟩ := List.mem_map.mp hv
        have lsc := scp_len _ hsc
        have M3 := M2.draw D3 u3
        obtain ⟨ts, e1, e2, e3⟩ := M3.ex
        refine ⟨_, _, rfl, rfl, Evl.sz_of (Nat.le_trans (Nat.add_le_add_left lsc _) (by decide)), t1, _, rfl, DPut.k (k := Sum.inr (("scope " : Str) ++ sc)) e1 (Evl.sz_lt (by rw [dz, List.length_map]; omega)), ⟨_, _, rfl⟩, ?_⟩
        rw [putZ_dz]
        exact (M3.put ot nt0 (putZ_nd e2 _ _) (k := 1 + (i + 1)) (Nat.le_trans (putZ_len _ _ _) (by omega))).mono (by omega) (Nat.le_refl _)
      · rintro σ H2 ⟨⟨y10, y11, rfl⟩, M2⟩
        exact ⟨⟨_, _, rfl⟩, M2.mono (by omega) (by omega)⟩
    · rintro σ H20 ⟨⟨y10, y11, rfl⟩, M20⟩
      refine ⟨fun σ H2 => (∃ y10 y11, σ = [some (V.ref d), some (.str nm), some (.ref wl), some (.str who), some (.ref p2), some (.str word), some (.str pln), some (.str scp), some (.ref o1), some (.ref t1), y10, y11]) ∧ Md K H d p2 o1 t1 kv17 (m + 9) 5 H2, ?_, ?_⟩
      · refine ⟨_, rfl, rfl, _, rfl, ite2 (fun _ => ?_) (fun _ => ⟨⟨_, _, rfl⟩, M20.mono (by omega) (by omega)⟩)⟩
        obtain ⟨ts, e1, e2, e3⟩ := M20.ex
        refine ⟨_, rfl, _, rfl, _, _, rfl, rfl, Evl.sz_of (Nat.le_trans (Nat.add_le_add_left lscp _) (by decide)), t1, _, rfl, DPut.k (k := Sum.inr (("nest " : Str) ++ scp)) e1 (Evl.sz_lt (by rw [dz, List.length_map]; omega)), ?_⟩
        rw [putZ_dz]
        have M21 := M20.put ot nt0 (putZ_nd e2 (("nest " : Str) ++ scp) "r") (k := 4) (Nat.le_trans (putZ_len _ _ _) (by omega))
        dsimp only
        generalize L2.upd H20 t1 (.dK (dz (putZ ts (("nest " : Str) ++ scp) "r"))) = H21 at M21 ⊢
        clear e1 e2 e3 M20
        obtain ⟨ts, e1, e2, e3⟩ := M21.ex
        refine ⟨_, rfl, t1, rfl, .inl ⟨_, .inl e1⟩, fun q0 nq0 q1 nq1 => ?_⟩
        have s22 := same_upd (o := .dK []) nq0
        have h0 : (upd H21 q0 (.dK [])) q0 = some (.dK []) := upd_same
        have s23 := same_upd (o := .dK []) nq1
        have h1 : (upd (upd H21 q0 (.dK [])) q1 (.dK [])) q1 = some (.dK []) := upd_same
        have q01 : q0 ≠ q1 := ne_of_none h0 nq1
        have h0' := s23 _ _ h0
        have M23 := M21.same (s22.trans s23)
        have t0 : t1 ≠ q0 := ne_of_none e1 nq0
        have t01 : t1 ≠ q1 := ne_of_none (s22 _ _ e1) nq1
        have nq1' : H q1 = none := none_back M21.W.u (s22.free nq1) (let ⟨x, y, z, e, _⟩ := M21.W.D; ⟨_, e⟩)
        have e1' := (s22.trans s23) _ _ e1
        generalize upd (upd H21 q0 (.dK [])) q1 (.dK []) = H23 at h1 h0' M23 e1' ⊢
        refine ⟨_, rfl, _, _, rfl, rfl, Evl.sz_of (Nat.le_trans (Nat.add_le_add_left lscp _) (by decide)), h1, [(Sum.inr (("scope " : Str) ++ scp), .str "w")], rfl, by show 1 ≤ 15; decide, ?_⟩
        have ez : mergeK [] [((Sum.inr (("scope " : Str) ++ scp) : Key), V.str "w")] = dz [(("scope " : Str) ++ scp, "w")] := rfl
        rw [ez]
        have h24 : (upd H23 q1 (.dK (dz [(("scope " : Str) ++ scp, "w")]))) q1 = some (.dK (dz [(("scope " : Str) ++ scp, "w")])) := upd_same
        have h240 : (upd H23 q1 (.dK (dz [(("scope " : Str) ++ scp, "w")]))) q0 = some (.dK (dz [])) := by rw [upd_ne q01]; exact h0'
        have M24 : Md K H d p2 o1 t1 kv17 (m + 8) 4 (upd H23 q1 (.dK (dz [(("scope " : Str) ++ scp, "w")]))) :=
          ⟨M23.W.put h1 nq1', M23.ow.upd h1, by rw [upd_ne (fun e => by have := M21.ho; rw [e] at this; exact absurd (s22 _ _ this) (by rw [nq1]; simp))]; exact M23.ho, ts, by rw [upd_ne t01]; exact e1', e2, e3⟩
        have e24 : (upd H23 q1 (.dK (dz [(("scope " : Str) ++ scp, "w")]))) t1 = some (.dK (dz ts)) := by rw [upd_ne t01]; exact e1'
        generalize upd H23 q1 (.dK (dz [(("scope " : Str) ++ scp, "w")])) = H24 at h24 h240 M24 e24 ⊢
        refine ⟨by show 2 ≤ sizeLine; decide, fun l nl => ?_⟩
        have s25 := same_upd (o := .lst [.ref q0, .ref q1]) nl
        have h25 : (upd H24 l (.lst [.ref q0, .ref q1])) l = some (.lst [.ref q0, .ref q1]) := upd_same
        have ld := M24.W.D.apart nl
        have M25 := M24.same s25
        have j0 := s25 _ _ h240
        have j1 := s25 _ _ h24
        have jt := s25 _ _ e24
        generalize upd H24 l (.lst [.ref q0, .ref q1]) = H25 at h25 M25 j0 j1 jt ⊢
        refine ⟨_, rfl, d, m + 8, 2, rfl, M25.W.D, by omega, by decide, by decide, fun r H26 r0 r1 D26 u26 => ?_⟩
        have M26 := M25.draw D26 u26
        have k0 := u26.dk M25.W.D j0
        have k1 := u26.dk M25.W.D j1
        have kt := u26.dk M25.W.D jt
        have k25 := u26 _ _ h25 ld
        obtain ⟨r, rfl⟩ : ∃ j : Nat, r = (j : Int) := ⟨r.toNat, by omega⟩
        rcases (by omega : r = 0 ∨ r = 1) with rfl | rfl
        · refine ⟨l, _, _, .ref q0, rfl, rfl, sl k25, atI_nat (j := 0) rfl, q0, dz ts, dz [], rfl, t0, kt, k0, Evl.sz_of (by rw [dz, List.length_map]; show ts.length + 0 ≤ _; omega), ⟨_, _, rfl⟩, ?_⟩
          rw [mergeZ_dz]
          exact (M26.put ot nt0 (mergeZ_nd [] e2) (k := 5) (Nat.le_trans (mergeZ_len _ _) (by show ts.length + 0 ≤ 5; omega))).mono (by omega) (Nat.le_refl _)
        · refine ⟨l, _, _, .ref q1, rfl, rfl, sl k25, atI_nat (j := 1) rfl, q1, dz ts, dz [_], rfl, t01, kt, k1, Evl.sz_of (by rw [dz, List.length_map]; show ts.length + 1 ≤ _; omega), ⟨_, _, rfl⟩, ?_⟩
          rw [mergeZ_dz]
          exact (M26.put ot nt0 (mergeZ_nd [_] e2) (k := 5) (Nat.le_trans (mergeZ_len _ _) (by show ts.length + 1 ≤ 5; omega))).mono (by omega) (Nat.le_refl _)
      · rintro σ H24 ⟨⟨y10, y11, rfl⟩, M24⟩
        obtain ⟨ts, e1, e2, e3⟩ := M24.ex
        -- what the word touches
        refine' (fun (rest : ∀ (ts : List (Str × Str)) (H' : Hp), H' t1 = some (.dK (dz ts)) → (ts.map (·.1)).Nodup → ts.length ≤ 6 → Md K H d p2 o1 t1 kv17 (m + 9) 6 H' → tSeq _ _ _ [some (V.ref d), some (.str nm), some (.ref wl), some (.str who), some (.ref p2), some (.str word), some (.str pln), some (.str scp), some (.ref o1), some (.ref t1), y10, y11] H') => ?main) ?rest
        case main =>
          have go : ∀ (l p : Addr) (a b : Option (Str × Str)), True := fun _ _ _ _ => trivial
          refine ⟨_, rfl, t1, rfl, .inl ⟨_, .inl e1⟩, ?_⟩
          refine ⟨_, rfl, _, rfl, o1, _, rfl, DGet.k (k := Sum.inr word) M24.ho, _, rfl, ?_⟩
          cases ev : valV kv17 (Sum.inr word : Key) with
          | none =>
            refine iteF ⟨Nat.zero_le _, fun l nl => ?_⟩
            have s26 := same_upd (o := .lst []) nl
            have h26 : (upd H24 l (.lst [])) l = some (.lst []) := upd_same
            have M26 := M24.same s26
            have e26 := s26 _ _ e1
            generalize upd H24 l (.lst []) = H26 at h26 M26 e26 ⊢
            refine ⟨l, [], [], rfl, sl h26, .nil, fun x nx => ?_⟩
            have s27 := same_upd (o := .dK (dz [])) nx
            have h27 : (upd H26 x (.dK (dz []))) x = some (.dK (dz [])) := upd_same
            have M27 := M26.same s27
            have e27 := s27 _ _ e26
            have tx : t1 ≠ x := ne_of_none e26 nx
            refine ⟨x, dz ts, dz [], rfl, tx, s27 _ _ e26, h27, Evl.sz_of (by rw [dz, List.length_map]; show ts.length + 0 ≤ _; omega), ?_⟩
            rw [mergeZ_dz]
            exact rest _ _ upd_same (mergeZ_nd [] e2) (Nat.le_trans (mergeZ_len _ _) (by show ts.length + 0 ≤ _; omega)) (M27.put ot nt0 (mergeZ_nd [] e2) (Nat.le_trans (mergeZ_len _ _) (by show ts.length + 0 ≤ _; omega)))
          | some v =>
            obtain ⟨p, a, b, rfl, hp, hab⟩ := own_lt M24.ow ev
            refine iteT ⟨_, rfl, _, rfl, o1, _, rfl, by have := DGet.k (k := Sum.inr word) M24.ho; rwa [ev] at this, by show 1 ≤ sizeLine; decide, fun l nl => ?_⟩
            have s26 := same_upd (o := .lst [.ref p]) nl
            have h26 : (upd H24 l (.lst [.ref p])) l = some (.lst [.ref p]) := upd_same
            have M26 := M24.same s26
            have e26 := s26 _ _ e1
            have hp26 := s26.sqt hp
            generalize upd H24 l (.lst [.ref p]) = H26 at h26 M26 e26 hp26 ⊢
            refine ⟨l, [p], dz [(a, b)], rfl, sl h26, .cons hp26 .nil, fun x nx => ?_⟩
            have s27 := same_upd (o := .dK (dz [(a, b)])) nx
            have h27 : (upd H26 x (.dK (dz [(a, b)]))) x = some (.dK (dz [(a, b)])) := upd_same
            have M27 := M26.same s27
            have tx : t1 ≠ x := ne_of_none e26 nx
            refine ⟨x, dz ts, dz [(a, b)], rfl, tx, s27 _ _ e26, h27, Evl.sz_of (by rw [dz, List.length_map]; show ts.length + 1 ≤ _; omega), ?_⟩
            rw [mergeZ_dz]
            exact rest _ _ upd_same (mergeZ_nd [_] e2) (Nat.le_trans (mergeZ_len _ _) (by show ts.length + 1 ≤ _; omega)) (M27.put ot nt0 (mergeZ_nd [_] e2) (Nat.le_trans (mergeZ_len _ _) (by show ts.length + 1 ≤ _; omega)))
        clear e1 e2 e3 M24 ts
        intro ts H28 e1 e2 e3 M28
        -- the place
        refine ⟨fun σ H2 => (∃ pl, σ = [some (V.ref d), some (.str nm), some (.ref wl), some (.str who), some (.ref p2), some (.str word), some (.str pln), some (.str scp), some (.ref o1), some (.ref t1), y10, some pl]) ∧ H2 t1 = some (.dK (dz ts)) ∧ Md K H d p2 o1 t1 kv17 (m + 10) 6 H2, ?_, ?_⟩
        · refine ⟨_, rfl, rfl, _, rfl, ite2 (fun _ => ⟨⟨_, rfl⟩, e1, M28.mono (by omega) (Nat.le_refl _)⟩) (fun _ => ?_)⟩
          refine ⟨_, rfl, d, m + 9, 3, rfl, M28.W.D, by omega, by decide, by decide, fun r H29 r0 r1 D29 u29 => ⟨by show 1 ≤ sizeLine; decide, fun x nx => ?_⟩⟩
          have s30 := same_upd (o := .tup [.int r]) nx
          exact ⟨⟨_, rfl⟩, s30 _ _ (u29.dk M28.W.D e1), (M28.draw D29 u29).same s30⟩
        · clear e1 M28
          rintro σ H31 ⟨⟨pl, rfl⟩, e1, M31⟩
          refine ⟨_, rfl, _, rfl, _, rfl, _, rfl, t1, dz ts, rfl, e1, fun H32 p as sx np nas pas hpl hpair => ?_⟩
          have hpair' : Paired (fun (t : Addr) (p : Str × Str) => H32 t = some (.tup [.str p.1, .str p.2])) as ts := paired_mapR (F := fun (t : Addr) (q : Key × V) => H32 t = some (.tup [kV q.1, q.2])) (fun p : Str × Str => ((Sum.inr p.1 : Key), V.str p.2)) hpair
          refine ⟨p, _, _, rfl, sl hpl, dp_pairs hpair', pairs_alike ts, pairs_sortable ts, pairs_depth ts, fun so nso => ?_⟩
          obtain ⟨L, hL, eL⟩ := sort_pairs (Paired.length hpair')
          rw [eL]
          have s33 := same_upd (o := .lst ((L.map (·.1)).map V.ref)) nso
          have h33 : (upd H32 so (.lst ((L.map (·.1)).map V.ref))) so = some (.lst ((L.map (·.1)).map V.ref)) := upd_same
          refine ⟨so, _, rfl, sl h33, fun tp o ntp od => ⟨by show 4 ≤ sizeLine; decide, fun fin nfin => ?_⟩⟩
          have s34 := same_upd (o := .frz o (.tup ((L.map (·.1)).map V.ref))) ntp
          have h34 : (upd (upd H32 so (.lst ((L.map (·.1)).map V.ref))) tp (.frz o (.tup ((L.map (·.1)).map V.ref)))) tp = some (.frz o (.tup ((L.map (·.1)).map V.ref))) := upd_same
          have s35 := same_upd (o := .tup [.str who, .str word, pl, .ref tp]) nfin
          have all : Same H31 _ := (show Same H31 H32 from sx).trans (s33.trans (s34.trans s35))
          have hlen : as.length = ts.length := Paired.length hpair'
          have perm2 : ((L.map (·.2)).map (·.1)).Perm (ts.map (·.1)) := by
            have h1 := (hL.map (·.2)).map (·.1)
            rwa [List.map_snd_zip (Nat.le_of_eq hlen.symm)] at h1
          have s3335 := s33.trans (s34.trans s35)
          have hc' : ¬ who = "clock" := fun e => hc (decide_eq_true (by rw [e]))
          refine q fin who (L.map (·.2)) _ ⟨⟨_, _, tp, stt upd_same, .inr ⟨o, L.map (·.1), s35 _ _ h34, od, ?_⟩⟩, perm2.nodup_iff.mpr e2, ?_⟩ ((M31.W.D.same all).mono (by omega)) (M31.W.u.trans (U1.of all))
          · refine paired_mapR' (F := fun (p : Addr) (kv : Key × V) => SqT K _ p [kV kv.1, kv.2]) (fun p : Str × Str => ((Sum.inr p.1 : Key), V.str p.2)) (paired_of L fun q hq => ?_)
            exact s3335.sqt (stt (paired_zip hpair' q (hL.mem_iff.mp hq)))
          · rw [List.length_map, hL.length_eq, List.length_zip, hlen, Nat.min_self]
            omega
end
end T43
namespace T43
open PySem PySem.Spec PyProof.Rows L2 HX HB HG HU LiI TL
theorem sg_sum : ∀ cs : List Nat, ((cs.map sg).map (·.length)).sum = cs.length
  | [] => rfl
  | c :: cs => by
    rw [List.map_cons, List.map_cons, List.sum_cons, sg_sum cs, List.length_cons]
    show 1 + cs.length = cs.length + 1
    omega
/-- the lists of words -/
structure Sm (H : Hp) (d sm : Addr) : Prop where
  ex : ∃ (bs : List Addr) (wss : List (List Str)), H sm = some (.lst (bs.map V.ref)) ∧ Paired (fun b (ws : List Str) => H b = some (.lst (ws.map V.str)) ∧ b ≠ d ∧ ws ≠ [] ∧ ws.length ≤ 10) bs wss ∧ bs ≠ [] ∧ bs.length ≤ 5
  hd : sm ≠ d
theorem Sm.up {H H' : Hp} {d sm : Addr} (S : Sm H d sm) (u : U1 d H H') : Sm H' d sm := by
  obtain ⟨bs, wss, h1, h2, h3⟩ := S.ex
  exact ⟨⟨bs, wss, u _ _ h1 S.hd, paired_imp (fun b ws h => ⟨u _ _ h.1 h.2.1, h.2⟩) h2, h3⟩, S.hd⟩
theorem flat_len : ∀ {bs : List Addr} {wss : List (List Str)} {H : Hp} {d : Addr}, Paired (fun b (ws : List Str) => H b = some (.lst (ws.map V.str)) ∧ b ≠ d ∧ ws ≠ [] ∧ ws.length ≤ 10) bs wss → wss.flatten.length ≤ 10 * bs.length ∧ (bs ≠ [] → wss.flatten ≠ [])
  | _, _, _, _, .nil => ⟨Nat.le_refl _, fun z => absurd rfl z⟩
  | _, _, _, _, .cons (b := ws) h t => by
    have ih := flat_len t
    refine ⟨?_, fun _ => ?_⟩
    · rw [List.flatten_cons, List.length_append, List.length_cons]
      have := h.2.2.2
      omega
    · rw [List.flatten_cons]
      intro e
      exact h.2.2.1 (List.append_eq_nil_iff.mp e).1
section
variable {P : Program} {w : World} {K : PySem.W.Frag} {mg : Str → Option Value} {base : Heap}
def spLaw (K : PySem.W.Frag) : Sp := fun vs H Q _ => ∃ (a : Addr) (ns : List Int), vs = [.ref a] ∧ SqL K H a (ns.map V.int) ∧ ns.length ≤ 63 ∧ ∀ H', Q (.bl true) H'
theorem ok_law {f : Addr} {fd : FuncData} (F : Fun K "law" "law" s_law f fd) (T : Tp K mg) : FnOk P w K mg base CX0 4 f fd ["_law_script"] (spLaw K) := by
  refine F.ok sc_law (fun vs H Q E h => ?_) (fun cdv A outer s H vs Q E hr h => ?_)
  · obtain ⟨a, ns, rfl, _⟩ := h
    rfl
  · obtain ⟨a, ns, rfl, hS, hl, q⟩ := h
    have hu := hu_of hr
    refine ⟨_, (pss_cons (ps_for PassesOwn.never rfl (pi_enum (by rfl) T.enumerate (pa_cons (pe_slice sl_list (pe_orT (pv 0) (pe_one (pe_lst (pa_cons pe_int pa_nil)))) po_none (po_some pe_int)) pa_nil)) (pg_tup rfl (pgs_cons (pg_name (i := 1) sc_law.nd rfl (.inl rfl)) (pgs_cons (pg_name (i := 2) sc_law.nd rfl (.inl rfl)) pgs_nil)))
  (pss_cons (ps_set (i := 3) sc_law.nd rfl (.inr rfl) (pcall T.D_begun (ok_begun T) (hr.mono (by decide)) (by rfl) (pa_cons (pv 2) (pa_cons (pv 1) pa_nil))))
  (pss_cons (ps_set (i := 4) sc_law.nd rfl (.inl rfl) (pe_join pe_str (pe_lc (own := [("_law_turn", 6)]) (g := gName 6) (by rfl) sc_law.nd (pi_range1 (by rfl) T.range (pa_cons (pe_op op_add pe_int (pcall T.D_next (ok_next T) (hr.mono (by decide)) (by rfl) (pa_cons (pv 3) (pa_cons pe_int pa_nil)))) pa_nil)) (blkOk_by (own := [("_law_turn", 6)]) (N := ["_law_script", "_law_k", "_law_cell", "_law_draw", "_law_name", "_law_some", "_law_turn", "_law_words", "_law_one", "_law_two", "_law_due_here", "_law_first", "_law_second", "_law_found"]) (sc := defScope s_law) (by decide +kernel)) (fun _ _ _ _ _ => (pg_name (i := 6) sc_law.nd rfl (.inl rfl))) (fun _ _ _ _ _ => pts_nil) (fun _ _ _ _ _ => (pcall T.D_pick (ok_pick T) (hr.mono (by decide)) (by rfl) (pa_cons (pv 3) (pa_cons pe_str pa_nil)))))))
  (pss_cons (ps_set (i := 5) sc_law.nd rfl (.inl rfl) (pe_lst (pa_cons (pe_lst (pa_cons pe_str (pa_cons pe_str pa_nil))) (pa_cons (pe_lst (pa_cons pe_str (pa_cons pe_str (pa_cons pe_str pa_nil)))) (pa_cons (pe_lst (pa_cons pe_str (pa_cons pe_str (pa_cons pe_str pa_nil)))) pa_nil)))))
  (pss_cons (ps_set (i := 5) sc_law.nd rfl (.inl rfl) (pe_op op_cat (pv 5) (pe_lst (pa_cons (pe_lst (pa_cons pe_str (pa_cons pe_str (pa_cons pe_str (pa_cons pe_str (pa_cons pe_str pa_nil)))))) (pa_cons (pe_lst (pa_cons pe_str (pa_cons pe_str (pa_cons pe_str (pa_cons pe_str pa_nil))))) pa_nil)))))
  (pss_one (ps_for PassesOwn.never rfl (pi_range1 (by rfl) T.range (pa_cons pe_int pa_nil)) (pg_name (i := 6) sc_law.nd rfl (.inl rfl))
  (pss_cons (ps_set (i := 7) sc_law.nd rfl (.inl rfl) (pcall T.D_pick (ok_pick T) (hr.mono (by decide)) (by rfl) (pa_cons (pv 3) (pa_cons (pe_op op_cat (pv 5) (pe_lst (pa_cons (pe_callB (call_sumL rfl) (by rfl) T.sum (by decide +kernel) (pa_cons (pv 5) (pa_cons (pe_lst pa_nil) pa_nil))) pa_nil))) pa_nil))))
  (pss_cons (ps_par (i := 8) (j := 9) rfl sc_law.nd rfl rfl (by decide) rfl rfl (pa_cons (pcall T.D_step (ok_step T) (hr.mono (by decide)) (by rfl) (pa_cons (pv 3) (pa_cons (pv 4) (pa_cons (pv 7) pa_nil)))) (pa_cons (pcall T.D_step (ok_step T) (hr.mono (by decide)) (by rfl) (pa_cons (pv 3) (pa_cons (pv 4) (pa_cons (pv 7) pa_nil)))) pa_nil)) (by rfl))
  (pss_cons (ps_set (i := 10) sc_law.nd rfl (.inl rfl) (pcall T.D_due (ok_due T) (hr.mono (by decide)) (by rfl) (pa_cons (pv 8) (pa_cons (pv 9) pa_nil))))
  (pss_one (ps_for PassesOwn.never rfl (pi_tup (pe_tup (pa_cons (pe_tup (pa_cons (pv 8) (pa_cons (pv 9) pa_nil))) (pa_cons (pe_tup (pa_cons (pv 9) (pa_cons (pv 8) pa_nil))) pa_nil)))) (pg_tup rfl (pgs_cons (pg_name (i := 11) sc_law.nd rfl (.inl rfl)) (pgs_cons (pg_name (i := 12) sc_law.nd rfl (.inl rfl)) pgs_nil)))
  (pss_cons (ps_set (i := 13) sc_law.nd rfl (.inl rfl) (pcall T.D_meet (ok_meet T) (hr.mono (by decide)) (by rfl) (pa_cons (pv 11) (pa_cons (pv 12) pa_nil))))
  (pss_one (ps_if (PW.pt (pw_or (pt_not (pt_val (pe_callB call_isi (by rfl) T.isinstance (by decide +kernel) (pa_cons (pv 13) (pa_cons (pe_bltn (v := .ty "bool") (by rfl) T.bool (by decide +kernel) rfl) pa_nil))))) (pw_or1 (pt_cmpR op_ne (pv 13) (pv 10) (nomark _)))))
  (pss_one (ps_ret pe_bl))
  pss_nil)))))))))))))))
  (pss_one (ps_ret pe_bl))), ?_⟩
    refine script_or rfl hS (by omega) fun b ms H1 s1 hB hms => ?_
    refine ⟨20, rfl, b, _, rfl, hB, fun c nc => ?_⟩
    obtain ⟨cs, ecs, lcs⟩ : ∃ cs : List Int, cutV (ms.map V.int) none (some 20) = cs.map V.int ∧ cs.length ≤ 20 := cut_ints ms 20
    rw [ecs]
    have hC : (upd H1 c (.lst (cs.map V.int))) c = some (.lst (cs.map V.int)) := upd_same
    generalize upd H1 c (.lst (cs.map V.int)) = H2 at hC ⊢
    refine ⟨c, _, rfl, .inl (.inl hC), for_it walk_enum (fun i σ H => (∃ y1 y2 y3 y4 y5 y6 y7 y8 y9 y10 y11 y12 y13, σ = [some (.ref a), y1, y2, y3, y4, y5, y6, y7, y8, y9, y10, y11, y12, y13]) ∧ H c = some (.lst (cs.map V.int)))
      ⟨⟨_, _, _, _, _, _, _, _, _, _, _, _, _, rfl⟩, hC⟩ (fun i σ H _ g => .inl (.inl g.2)) ?_ (fun σ H _ => q H)⟩
    rintro i x σ H3 H4 hi ⟨⟨y1, y2, y3, y4, y5, y6, y7, y8, y9, y10, y11, y12, y13, rfl⟩, hC3⟩ ⟨Tt, x1, x2, rfl, nT, rfl, g1, g2⟩
    cases g1
    rw [List.length_map] at hi
    dsimp only at g2
    rw [List.getElem?_map, List.getElem?_eq_getElem hi] at g2
    cases g2
    have hC4 : (upd H3 Tt (.tup [.int (i : Nat), .int cs[i]])) c = some (.lst (cs.map V.int)) := by rw [upd_ne (ne_of_none hC3 nT)]; exact hC3
    refine ⟨Tt, _, rfl, .inl (.inl upd_same), rfl, _, _, rfl, _, _, rfl, rfl, ?_⟩
    generalize upd H3 Tt (.tup [.int (i : Nat), .int cs[i]]) = H5 at hC4 ⊢
    -- the draws
    refine ⟨_, rfl, _, rfl, _, _, rfl, (by omega), (by omega), fun d H6 nd s6 D6 => ?_⟩
    have cd : c ≠ d := ne_of_none hC4 nd
    have hC6 := s6 _ _ hC4
    -- the name
    refine ⟨⟨_, rfl⟩, _, rfl, d, 0, 6, rfl, D6, by decide, by decide, by decide, fun r H7 r0 r1 D7 u7 => ⟨_, _, rfl, rfl, 1 + r, rfl, by omega, by omega, fun L nL => ?_⟩⟩
    have Ld := D7.apart nL
    have hC7 := u7 _ _ hC6 cd
    refine lc_it walk_range (fun i H8 => DL H8 d (1 + i) ∧ U1 d H7 H8 ∧ ∃ zs : List Nat, H8 L = some (.lst ((zs.map sg).map V.str)) ∧ zs.length = i) ⟨D7.same (same_upd nL), U1.of (same_upd nL), [], upd_same, rfl⟩ (fun _ _ _ _ => trivial) ?_ ?_
    · rintro j x H8 H9 hj ⟨D8, u8, zs, hL, hz⟩ ⟨rfl, rfl⟩
      refine ⟨rfl, ?_⟩
      refine ⟨_, rfl, d, 1 + j, .str "etaoinshrdlcumwfgypbvkjxqz", _, rfl, D8, by omega, fun H' u => .inr (.inr ⟨_, rfl, by decide, rfl⟩), by decide, by decide, fun v H9 hv D9 u9 => ?_⟩
      obtain ⟨ch, hch, rfl⟩ := List.mem_map.mp hv
      exact ⟨_, u9 _ _ hL Ld, by rw [List.length_map, List.length_map]; exact small1000 (by omega), D9.set Ld, (u8.trans u9).own nL, zs ++ [ch], by rw [upd_same, List.map_append, List.map_append]; rfl, by rw [List.length_append, hz]; rfl⟩
    · rintro H8 ⟨D8, u8, zs, hL, hz⟩
      refine ⟨_, L, _, rfl, rfl, .inl (sl hL), ?_, ?_⟩
      · rw [sg_sum, List.length_map, show (Str.ofString "").length = 0 from rfl]
        omega
      have lnm : (Txt.join Str.empty (zs.map sg)).length ≤ 100 := by
        have e := congrArg List.length (join_sg zs)
        rw [Array.length_toList] at e
        show (Txt.join Str.empty (zs.map sg)).cps.size ≤ 100
        omega
      have hC8 := u8 _ _ hC7 cd
      have D8' : DL H8 d 8 := D8.mono (by omega)
      show tSeq _ _ _ ([some (.ref a), some (.int (i : Nat)), some (.int cs[i]), some (.ref d), some (.str (Txt.join Str.empty (zs.map sg))), y5, y6, y7, y8, y9, y10, y11, y12, y13]) H8
      generalize Txt.join Str.empty (zs.map sg) = nm at lnm ⊢
      clear hL hz zs D8 u8 hC7 D7 u7 hC6 D6 s6 hC4
      -- the words
      refine ⟨by show 2 ≤ sizeLine; decide, fun l1 n1 => ⟨by show 3 ≤ sizeLine; decide, fun l2 n2 => ⟨by show 3 ≤ sizeLine; decide, fun l3 n3 => ⟨by show 3 ≤ sizeLine; decide, fun l4 n4 => ?_⟩⟩⟩⟩
      have t1 := same_upd (o := .lst [.str "read", .str "write"]) n1
      have t2 := same_upd (o := .lst [.str "send", .str "take", .str "cut"]) n2
      have t3 := same_upd (o := .lst [.str "hold", .str "let", .str "off"]) n3
      have t4 := same_upd (o := .lst [.ref l1, .ref l2, .ref l3]) n4
      have a1 := (t2.trans (t3.trans t4)) _ _ (show _ = some (HO.lst ((["read", "write"] : List Str).map V.str)) from upd_same)
      have a2 := (t3.trans t4) _ _ (show _ = some (HO.lst ((["send", "take", "cut"] : List Str).map V.str)) from upd_same)
      have a3 := t4 _ _ (show _ = some (HO.lst ((["hold", "let", "off"] : List Str).map V.str)) from upd_same)
      have a4 : (upd (upd (upd (upd H8 l1 (.lst [.str "read", .str "write"])) l2 (.lst [.str "send", .str "take", .str "cut"])) l3 (.lst [.str "hold", .str "let", .str "off"])) l4 (.lst [.ref l1, .ref l2, .ref l3])) l4 = some (.lst [.ref l1, .ref l2, .ref l3]) := upd_same
      have tt := t1.trans (t2.trans (t3.trans t4))
      have D9 := D8'.same tt
      have hC9 := tt _ _ hC8
      have x1 := D8'.apart n1
      have x2 := (D8'.same t1).apart n2
      have x3 := (D8'.same (t1.trans t2)).apart n3
      show tSeq _ _ _ _ (upd (upd (upd (upd H8 l1 (.lst [.str "read", .str "write"])) l2 (.lst [.str "send", .str "take", .str "cut"])) l3 (.lst [.str "hold", .str "let", .str "off"])) l4 (.lst [.ref l1, .ref l2, .ref l3]))
      generalize (upd (upd (upd (upd H8 l1 (.lst [.str "read", .str "write"])) l2 (.lst [.str "send", .str "take", .str "cut"])) l3 (.lst [.str "hold", .str "let", .str "off"])) l4 (.lst [.ref l1, .ref l2, .ref l3])) = H9 at a1 a2 a3 a4 D9 hC9 ⊢
      clear t1 t2 t3 t4 tt n1 n2 n3 n4 D8' hC8
      refine ⟨_, rfl, by show 5 ≤ sizeLine; decide, fun l5 n5 => ⟨by show 4 ≤ sizeLine; decide, fun l6 n6 => ⟨by show 2 ≤ sizeLine; decide, fun l7 n7 => ?_⟩⟩⟩
      have t5 := same_upd (o := .lst [.str "off", .str "call", .str "rest", .str "end", .str "cut"]) n5
      have t6 := same_upd (o := .lst [.str "leave", .str "end", .str "start", .str "tell"]) n6
      have t7 := same_upd (o := .lst [.ref l5, .ref l6]) n7
      have a5 := (t6.trans t7) _ _ (show _ = some (HO.lst ((["off", "call", "rest", "end", "cut"] : List Str).map V.str)) from upd_same)
      have a6 := t7 _ _ (show _ = some (HO.lst ((["leave", "end", "start", "tell"] : List Str).map V.str)) from upd_same)
      have a7 : (upd (upd (upd H9 l5 (.lst [.str "off", .str "call", .str "rest", .str "end", .str "cut"])) l6 (.lst [.str "leave", .str "end", .str "start", .str "tell"])) l7 (.lst [.ref l5, .ref l6])) l7 = some (.lst [.ref l5, .ref l6]) := upd_same
      have x5 := D9.apart n5
      have x6 := (D9.same t5).apart n6
      have tt := t5.trans (t6.trans t7)
      refine ⟨l4, l7, _, _, rfl, rfl, tt _ _ a4, a7, by show 5 ≤ sizeLine; decide, fun sm nsm => ?_⟩
      have t8 := same_upd (o := .lst ([.ref l1, .ref l2, .ref l3] ++ [.ref l5, .ref l6])) nsm
      have al := tt.trans t8
      have S10 : Sm (upd (upd (upd (upd H9 l5 (.lst [.str "off", .str "call", .str "rest", .str "end", .str "cut"])) l6 (.lst [.str "leave", .str "end", .str "start", .str "tell"])) l7 (.lst [.ref l5, .ref l6])) sm (.lst ([.ref l1, .ref l2, .ref l3] ++ [.ref l5, .ref l6]))) d sm :=
        ⟨⟨[l1, l2, l3, l5, l6], _, upd_same, .cons ⟨al _ _ a1, x1, by decide, by decide⟩ (.cons ⟨al _ _ a2, x2, by decide, by decide⟩ (.cons ⟨al _ _ a3, x3, by decide, by decide⟩ (.cons ⟨t8 _ _ a5, x5, by decide, by decide⟩ (.cons ⟨t8 _ _ a6, x6, by decide, by decide⟩ .nil)))), by simp, by show 5 ≤ 5; decide⟩, (D9.same tt).apart nsm⟩
      have D10 := D9.same al
      have hC10 := al _ _ hC9
      dsimp only [gName]
      generalize upd (upd (upd (upd H9 l5 (.lst [.str "off", .str "call", .str "rest", .str "end", .str "cut"])) l6 (.lst [.str "leave", .str "end", .str "start", .str "tell"])) l7 (.lst [.ref l5, .ref l6])) sm (.lst ([.ref l1, .ref l2, .ref l3] ++ [.ref l5, .ref l6])) = H10 at S10 D10 hC10 ⊢
      clear t5 t6 t7 t8 al tt a1 a2 a3 a4 a5 a6 a7 x1 x2 x3 x5 x6 n5 n6 n7 nsm D9 hC9
      -- four turns
      refine ⟨4, rfl, by decide, by decide, for_range (lo := 0) (n := (4 : Int).toNat) (fun t σ H => (∃ y6 y7 y8 y9 y10 y11 y12 y13, σ = [some (.ref a), some (.int (i : Nat)), some (.int cs[i]), some (.ref d), some (.str nm), some (.ref sm), y6, y7, y8, y9, y10, y11, y12, y13]) ∧ H c = some (.lst (cs.map V.int)) ∧ DL H d (8 + 41 * t) ∧ Sm H d sm) ?_ ?_ ?_⟩
      · exact ⟨⟨_, _, _, _, _, _, _, _, rfl⟩, hC10, D10, S10⟩
      · rintro t σ H11 ht ⟨⟨y6, y7, y8, y9, y10, y11, y12, y13, rfl⟩, hC11, D11, S11⟩
        have Dm := D11.mono (m := 8 + 41 * t + 41) (by omega)
        have hn600 : 8 + 41 * t + 41 ≤ 200 := by have : t < 4 := ht; omega
        have cd' := cd
        obtain ⟨bs, wss, h1, h2, h3, h4⟩ := S11.ex
        refine ⟨_, rfl, _, rfl, _, rfl, Nat.zero_le _, fun z nz => ?_⟩
        have u1 := same_upd (o := .lst []) nz
        have hz : (upd H11 z (.lst [])) z = some (.lst []) := upd_same
        have D12 := D11.same u1
        have S12 := S11.up (U1.of u1)
        have hC12 := u1 _ _ hC11
        have g1 := u1 _ _ h1
        have g2 : Paired (fun b (ws : List Str) => (upd H11 z (.lst [])) b = some (.lst (ws.map V.str)) ∧ b ≠ d ∧ ws ≠ [] ∧ ws.length ≤ 10) bs wss := paired_imp (fun b ws h => ⟨u1 _ _ h.1, h.2⟩) h2
        generalize upd H11 z (.lst []) = H12 at hz D12 S12 hC12 g1 g2 ⊢
        obtain ⟨fl1, fl2⟩ := flat_len g2
        have ef : (wss.map (List.map V.str)).flatten = wss.flatten.map V.str := by rw [List.map_flatten]
        refine ⟨sm, z, bs, wss.map (List.map V.str), rfl, g1, hz, h3, paired_mapR' (F := fun b xs => H12 b = some (.lst xs)) (List.map V.str) (paired_imp (fun b ws h => h.1) g2), by rw [ef, List.length_map]; exact Evl.sz_of (by omega), fun p np => ?_⟩
        rw [ef]
        have u2 := same_upd (o := .lst (wss.flatten.map V.str)) np
        have hp : (upd H12 p (.lst (wss.flatten.map V.str))) p = some (.lst (wss.flatten.map V.str)) := upd_same
        have pd := D12.apart np
        have D13 := D12.same u2
        have S13 := S12.up (U1.of u2)
        have hC13 := u2 _ _ hC12
        have k1 := u2 _ _ g1
        have k2 : Paired (fun b (ws : List Str) => (upd H12 p (.lst (wss.flatten.map V.str))) b = some (.lst (ws.map V.str)) ∧ b ≠ d ∧ ws ≠ [] ∧ ws.length ≤ 10) bs wss := paired_imp (fun b ws h => ⟨u2 _ _ h.1, h.2⟩) g2
        generalize upd H12 p (.lst (wss.flatten.map V.str)) = H13 at hp D13 S13 hC13 k1 k2 ⊢
        refine ⟨by show 1 ≤ sizeLine; decide, fun o no => ?_⟩
        have u3 := same_upd (o := .lst [.ref p]) no
        have ho : (upd H13 o (.lst [.ref p])) o = some (.lst [.ref p]) := upd_same
        refine ⟨sm, o, bs.map V.ref, [.ref p], rfl, rfl, u3 _ _ k1, ho, by rw [List.length_map]; exact Evl.sz_of (by show bs.length + 1 ≤ _; omega), fun r nr => ?_⟩
        have u4 := u3.trans (same_upd (o := .lst (bs.map V.ref ++ [.ref p])) nr)
        have hr' : (upd (upd H13 o (.lst [.ref p])) r (.lst (bs.map V.ref ++ [.ref p]))) r = some (.lst ((bs ++ [p]).map V.ref)) := by rw [upd_same, List.map_append]; rfl
        have rd := (D13.same u3).apart nr
        have D14 := D13.same u4
        have S14 := S13.up (U1.of u4)
        have hC14 := u4 _ _ hC13
        have hp14 := u4 _ _ hp
        have m2 : Paired (fun b (ws : List Str) => (upd (upd H13 o (.lst [.ref p])) r (.lst (bs.map V.ref ++ [.ref p]))) b = some (.lst (ws.map V.str)) ∧ b ≠ d ∧ ws ≠ [] ∧ ws.length ≤ 10) bs wss := paired_imp (fun b ws h => ⟨u4 _ _ h.1, h.2⟩) k2
        generalize upd (upd H13 o (.lst [.ref p])) r (.lst (bs.map V.ref ++ [.ref p])) = H14 at hr' D14 S14 hC14 hp14 m2 ⊢
        refine ⟨d, 8 + 41 * t, .ref r, (bs ++ [p]).map V.ref, rfl, D14, by omega, fun H' u => .inl ⟨r, rfl, sl (u _ _ hr' rd)⟩, by simp, by rw [List.length_map, List.length_append]; show bs.length + 1 ≤ _; omega, fun v H15 hv D15 u15 => ?_⟩
        obtain ⟨wl, hwl, rfl⟩ := List.mem_map.mp hv
        have isw : ∃ ws : List Str, H15 wl = some (.lst (ws.map V.str)) ∧ wl ≠ d ∧ ws ≠ [] ∧ ws.length ≤ 1000 := by
          rcases List.mem_append.mp hwl with hb | hb
          · obtain ⟨j, hj, ej⟩ := List.getElem_of_mem hb
            obtain ⟨ws, _, e1, e2, e3, e4⟩ := paired_at m2 (List.getElem?_eq_getElem hj)
            rw [ej] at e1 e2
            exact ⟨ws, u15 _ _ e1 e2, e2, e3, by omega⟩
          · rw [List.mem_singleton.mp hb]
            exact ⟨wss.flatten, u15 _ _ hp14 pd, pd, fl2 h3, by omega⟩
        obtain ⟨ws, w1, w2, w3, w4⟩ := isw
        have S15 := S14.up u15
        have hC15 := u15 _ _ hC14 cd
        clear h1 h2 g1 g2 k1 k2 m2 hr' hp14 S14 hC14 D14 hv hwl S13 S12 S11 D13 D12 D11 hC13 hC12 hC11
        dsimp only [gName]
        refine ⟨_, rfl, _, rfl, _, rfl, d, wl, 8 + 41 * t + 1, nm, ws, rfl, D15, by omega, lnm, w1, w2, w3, w4, fun one who1 ts1 H16 St1 D16 u16 => ?_⟩
        have w1' := u16 _ _ w1 w2
        refine ⟨_, rfl, _, rfl, _, rfl, d, wl, 8 + 41 * t + 1 + 20, nm, ws, rfl, D16, by omega, lnm, w1', w2, w3, w4, fun two who2 ts2 H17 St2 D17 u17 => ?_⟩
        have St1' := St1.up u17 D16
        refine ⟨_, _, rfl, ?_⟩
        refine ⟨_, rfl, _, rfl, one, two, who1, who2, ts1, ts2, rfl, St1', St2, fun H18 s18 => ?_⟩
        have A1 := St1'.same s18
        have A2 := St2.same s18
        have D18 := D17.same s18
        have S18 := ((S15.up u16).up u17).up (U1.of s18)
        have hC18 := s18 _ _ (u17 _ _ (u16 _ _ hC15 cd) cd)
        clear w1 w1' St1 St1' St2 D15 D16 D17 S15 hC15 u16 u17 s18
        generalize hcf : conf who1 ts1 who2 ts2 = cf
        have hcf2 : conf who2 ts2 who1 ts1 = cf := by rw [← hcf]; exact conf_comm A2.nd A1.nd
        dsimp only [gName]
        refine ⟨_, rfl, _, rfl, by show 2 ≤ sizeLine; decide, fun p1 np1 => ⟨_, rfl, _, rfl, by show 2 ≤ sizeLine; decide, fun p2 np2 => ⟨by show 2 ≤ sizeLine; decide, fun p3 np3 => ?_⟩⟩⟩
        have v1 := same_upd (o := .tup [.ref one, .ref two]) np1
        have v2 := same_upd (o := .tup [.ref two, .ref one]) np2
        have v3 := same_upd (o := .tup [.ref p1, .ref p2]) np3
        have vv := v1.trans (v2.trans v3)
        have B1 := A1.same vv
        have B2 := A2.same vv
        have hp1 := (v2.trans v3) _ _ (show _ = some (HO.tup [.ref one, .ref two]) from upd_same)
        have hp2 := v3 _ _ (show _ = some (HO.tup [.ref two, .ref one]) from upd_same)
        have hp3 : (upd (upd (upd H18 p1 (.tup [.ref one, .ref two])) p2 (.tup [.ref two, .ref one])) p3 (.tup [.ref p1, .ref p2])) p3 = some (.tup [.ref p1, .ref p2]) := upd_same
        have D19 := D18.same vv
        have S19 := S18.up (U1.of vv)
        have hC19 := vv _ _ hC18
        generalize (upd (upd (upd H18 p1 (.tup [.ref one, .ref two])) p2 (.tup [.ref two, .ref one])) p3 (.tup [.ref p1, .ref p2])) = H19 at B1 B2 hp1 hp2 hp3 D19 S19 hC19 ⊢
        refine ⟨p3, rfl, ⟨_, stt hp3⟩, for_it (walk_tup (xs := [.ref p1, .ref p2])) (fun k σ H => (∃ y6 y11 y12 y13, σ = [some (.ref a), some (.int (i : Nat)), some (.int cs[i]), some (.ref d), some (.str nm), some (.ref sm), y6, some (.ref wl), some (.ref one), some (.ref two), some (.bl cf), y11, y12, y13]) ∧ Same H19 H) ?_ ?_ ?_ ?_⟩
        · exact ⟨⟨_, _, _, _, rfl⟩, Same.refl _⟩
        · rintro k σ H20 _ ⟨_, s20⟩
          exact s20.sqt (stt hp3)
        · rintro k x σ H21 H20 hk ⟨⟨y6, y11, y12, y13, rfl⟩, s20⟩ ⟨rfl, hx⟩
          have hk2 : k < 2 := hk
          rcases (by omega : k = 0 ∨ k = 1) with rfl | rfl
          · cases hx
            refine ⟨_, _, rfl, stt (s20 _ _ hp1), rfl, _, _, rfl, _, _, rfl, rfl, ?_⟩
            refine ⟨_, rfl, _, rfl, one, two, who1, who2, ts1, ts2, rfl, B1.same s20, B2.same s20, fun H22 s22 => ?_⟩
            rw [hcf]
            refine ⟨_, rfl, _, _, _, _, true, rfl, .ty "bool", .base (.bl _), kit_ty (by decide +kernel), true, rfl, ?_⟩
            exact iteF ⟨_, rfl, _, rfl, rfl, _, rfl, ite0 (by simp) ⟨⟨_, _, _, _, rfl⟩, s20.trans s22⟩⟩
          · cases hx
            refine ⟨_, _, rfl, stt (s20 _ _ hp2), rfl, _, _, rfl, _, _, rfl, rfl, ?_⟩
            refine ⟨_, rfl, _, rfl, two, one, who2, who1, ts2, ts1, rfl, B2.same s20, B1.same s20, fun H22 s22 => ?_⟩
            rw [hcf2]
            refine ⟨_, rfl, _, _, _, _, true, rfl, .ty "bool", .base (.bl _), kit_ty (by decide +kernel), true, rfl, ?_⟩
            exact iteF ⟨_, rfl, _, rfl, rfl, _, rfl, ite0 (by simp) ⟨⟨_, _, _, _, rfl⟩, s20.trans s22⟩⟩
        · rintro σ H20 ⟨⟨y6, y11, y12, y13, rfl⟩, s20⟩
          refine ⟨⟨_, _, _, _, _, _, _, _, rfl⟩, s20 _ _ hC19, (D19.same s20).mono (by omega), S19.up (U1.of s20)⟩
      · rintro σ H11 ⟨⟨y6, y7, y8, y9, y10, y11, y12, y13, rfl⟩, hC11, D11, S11⟩
        exact ⟨⟨_, _, _, _, _, _, _, _, _, _, _, _, _, rfl⟩, hC11⟩
end
theorem all_mk {l : PySem.W.OpenLaw} {w : World} {K : PySem.W.Frag} {h : Heap} {mg : Str → Option Value} {fa f1 f2 f3 f4 f5 f6 f7 : Addr} (X : K.In h) (G : h.Ns mainGlobals mg) (hfa : mg "law" = some (.ref fa))
    {od1 an1 od2 an2 od3 an3 od4 an4 od5 an5 od6 an6 od7 an7 : Option Addr} {sl1 sl2 sl3 sl4 sl5 sl6 sl7 : Array (Option Value)} {oc1 kV1 dc1 pm1 cd1 ct1 oc2 kV2 dc2 pm2 cd2 ct2 oc3 kV3 dc3 pm3 cd3 ct3 oc4 kV4 dc4 pm4 cd4 ct4 oc5 kV5 dc5 pm5 cd5 ct5 oc6 kV6 dc6 pm6 cd6 ct6 oc7 kV7 dc7 pm7 cd7 ct7 : Value}
    {tk1 : Tok}
    (a1 : PySem.W.nsIn K mainGlobals "meet" = some (some (.ref f1))) (l1 : K.lookup f1 = some ⟨oc1, od1, .func (PySem.W.fnOf "meet" "meet" (defArgs s_meet) (defBody s_meet) (defScope s_meet) .none kV1 dc1 pm1 an1 cd1 ct1), sl1⟩) (c1 : PySem.W.codeIn K cd1 "meet" = true) (k1 : PySem.W.keepIn K (.ref f1) = true)
    (a2 : PySem.W.nsIn K mainGlobals "_law_begun" = some (some (.ref f2))) (l2 : K.lookup f2 = some ⟨oc2, od2, .func (PySem.W.fnOf "_law_begun" "_law_begun" (defArgs s_begun) (defBody s_begun) (defScope s_begun) .none kV2 dc2 pm2 an2 cd2 ct2), sl2⟩) (c2 : PySem.W.codeIn K cd2 "_law_begun" = true) (k2 : PySem.W.keepIn K (.ref f2) = true)
    (a3 : PySem.W.nsIn K mainGlobals "_law_next" = some (some (.ref f3))) (l3 : K.lookup f3 = some ⟨oc3, od3, .func (PySem.W.fnOf "_law_next" "_law_next" (defArgs s_next) (defBody s_next) (defScope s_next) .none kV3 dc3 pm3 an3 cd3 ct3), sl3⟩) (c3 : PySem.W.codeIn K cd3 "_law_next" = true) (k3 : PySem.W.keepIn K (.ref f3) = true)
    (a4 : PySem.W.nsIn K mainGlobals "_law_pick" = some (some (.ref f4))) (l4 : K.lookup f4 = some ⟨oc4, od4, .func (PySem.W.fnOf "_law_pick" "_law_pick" (defArgs s_pick) (defBody s_pick) (defScope s_pick) .none kV4 dc4 pm4 an4 cd4 ct4), sl4⟩) (c4 : PySem.W.codeIn K cd4 "_law_pick" = true) (k4 : PySem.W.keepIn K (.ref f4) = true)
    (a5 : PySem.W.nsIn K mainGlobals "_law_step" = some (some (.ref f5))) (l5 : K.lookup f5 = some ⟨oc5, od5, .func (PySem.W.fnOf "_law_step" "_law_step" (defArgs s_step) (defBody s_step) (defScope s_step) .none kV5 dc5 pm5 an5 cd5 ct5), sl5⟩) (c5 : PySem.W.codeIn K cd5 "_law_step" = true) (k5 : PySem.W.keepIn K (.ref f5) = true)
    (a6 : PySem.W.nsIn K mainGlobals "_law_due" = some (some (.ref f6))) (l6 : K.lookup f6 = some ⟨oc6, od6, .func (PySem.W.fnOf "_law_due" "_law_due" (defArgs s_due) (defBody s_due) (defScope s_due) .none kV6 dc6 pm6 an6 cd6 ct6), sl6⟩) (c6 : PySem.W.codeIn K cd6 "_law_due" = true) (k6 : PySem.W.keepIn K (.ref f6) = true)
    (a7 : PySem.W.nsIn K mainGlobals "law" = some (some (.ref f7))) (l7 : K.lookup f7 = some ⟨oc7, od7, .func (PySem.W.fnOf "law" "law" (defArgs s_law) (defBody s_law) (defScope s_law) .none kV7 dc7 pm7 an7 cd7 ct7), sl7⟩) (c7 : PySem.W.codeIn K cd7 "law" = true) (k7 : PySem.W.keepIn K (.ref f7) = true)
    (g_CLOCK : PySem.W.nsIn K mainGlobals "CLOCK" = some (some (.str "clock" tk1)))
    (z_any : PySem.W.nsIn K mainGlobals "any" = some none) (z_bool : PySem.W.nsIn K mainGlobals "bool" = some none) (z_dict : PySem.W.nsIn K mainGlobals "dict" = some none) (z_enumerate : PySem.W.nsIn K mainGlobals "enumerate" = some none) (z_isinstance : PySem.W.nsIn K mainGlobals "isinstance" = some none) (z_len : PySem.W.nsIn K mainGlobals "len" = some none) (z_list : PySem.W.nsIn K mainGlobals "list" = some none) (z_max : PySem.W.nsIn K mainGlobals "max" = some none) (z_range : PySem.W.nsIn K mainGlobals "range" = some none) (z_sorted : PySem.W.nsIn K mainGlobals "sorted" = some none) (z_sum : PySem.W.nsIn K mainGlobals "sum" = some none) (z_tuple : PySem.W.nsIn K mainGlobals "tuple" = some none) :
    ∃ fd : FuncData, (∀ (s : Shared) (v : Value), BindsTo s fd ⟨[v], []⟩ [("_law_script", v)]) ∧ ∀ base : Heap, K.In base → base.Ns mainGlobals mg → FnOk l.prog w K mg base CX0 4 fa fd ["_law_script"] (spLaw K) := by
  have e := hfa.symm.trans (PySem.W.mg_of X G a7)
  cases e
  have F1 := fun_mk (st := s_meet) l1 c1 k1
  have F2 := fun_mk (st := s_begun) l2 c2 k2
  have F3 := fun_mk (st := s_next) l3 c3 k3
  have F4 := fun_mk (st := s_pick) l4 c4 k4
  have F5 := fun_mk (st := s_step) l5 c5 k5
  have F6 := fun_mk (st := s_due) l6 c6 k6
  have F7 := fun_mk (st := s_law) l7 c7 k7
  have b1 := F1.binds (ps := ["step", "other"]) fun _ _ _ _ _ _ us hl => match us, hl with | [_, _], _ => rfl
  have b2 := F2.binds (ps := ["_law_cell", "_law_k"]) fun _ _ _ _ _ _ us hl => match us, hl with | [_, _], _ => rfl
  have b3 := F3.binds (ps := ["_law_draw", "_law_size"]) fun _ _ _ _ _ _ us hl => match us, hl with | [_, _], _ => rfl
  have b4 := F4.binds (ps := ["_law_draw", "_law_some"]) fun _ _ _ _ _ _ us hl => match us, hl with | [_, _], _ => rfl
  have b5 := F5.binds (ps := ["_law_draw", "_law_name", "_law_words"]) fun _ _ _ _ _ _ us hl => match us, hl with | [_, _, _], _ => rfl
  have b6 := F6.binds (ps := ["_law_step_here", "_law_other"]) fun _ _ _ _ _ _ us hl => match us, hl with | [_, _], _ => rfl
  have T : Tp K mg := { f_meet := f1, fd_meet := _, D_meet := ⟨F1, b1, PySem.W.mg_of X G a1⟩, f_begun := f2, fd_begun := _, D_begun := ⟨F2, b2, PySem.W.mg_of X G a2⟩, f_next := f3, fd_next := _, D_next := ⟨F3, b3, PySem.W.mg_of X G a3⟩, f_pick := f4, fd_pick := _, D_pick := ⟨F4, b4, PySem.W.mg_of X G a4⟩, f_step := f5, fd_step := _, D_step := ⟨F5, b5, PySem.W.mg_of X G a5⟩, f_due := f6, fd_due := _, D_due := ⟨F6, b6, PySem.W.mg_of X G a6⟩, c_CLOCK := ⟨_, PySem.W.mg_of X G g_CLOCK⟩, any := PySem.W.mg_none_of X G z_any, bool := PySem.W.mg_none_of X G z_bool, dict := PySem.W.mg_none_of X G z_dict, enumerate := PySem.W.mg_none_of X G z_enumerate, isinstance := PySem.W.mg_none_of X G z_isinstance, len := PySem.W.mg_none_of X G z_len, list := PySem.W.mg_none_of X G z_list, max := PySem.W.mg_none_of X G z_max, range := PySem.W.mg_none_of X G z_range, sorted := PySem.W.mg_none_of X G z_sorted, sum := PySem.W.mg_none_of X G z_sum, tuple := PySem.W.mg_none_of X G z_tuple }
  exact ⟨PySem.W.fnOf "law" "law" (defArgs s_law) (defBody s_law) (defScope s_law) .none kV7 dc7 pm7 an7 cd7 ct7, fun s v => .of_eq rfl, fun base _ _ => ok_law F7 T⟩
end T43
open PySem PySem.W PyProof.Rows
set_option maxRecDepth 100000 in
set_option maxHeartbeats 0 in
theorem PySem.Challenge.cw_nestyard_k43_steps_that_meet_holds : PySem.Challenge.rw_nestyard_k43_steps_that_meet.Holds := by
  w_on; o_law; k_head; (case hw => w_witness2)
  k_fill
  refine L2.walk_of (l := PySem.Challenge.rw_nestyard_k43_steps_that_meet) (n := 63) (k := 4) (x := "_law_script") (CX := fun _ => L2.CX0) (sp := fun w => T43.spLaw _) rfl (by decide) rfl ⟨rfl, by decide, by decide⟩ (fun w h Y => PySem.W.kIn_of Y) ?F (fun _ _ a ns hl _ hS => ⟨a, ns, rfl, hS, hl, fun _ => rfl⟩) (fun _ _ _ _ _ h => h)
  case F =>
    intro w mg fa h KX G hmg
    refine' T43.all_mk KX G hmg ?a1 ?l1 ?c1 ?k1 ?a2 ?l2 ?c2 ?k2 ?a3 ?l3 ?c3 ?k3 ?a4 ?l4 ?c4 ?k4 ?a5 ?l5 ?c5 ?k5 ?a6 ?l6 ?c6 ?k6 ?a7 ?l7 ?c7 ?k7 ?g_CLOCK ?z_any ?z_bool ?z_dict ?z_enumerate ?z_isinstance ?z_len ?z_list ?z_max ?z_range ?z_sorted ?z_sum ?z_tuple
    (case a1 => k_is); (case l1 => k_is); (case c1 => k_is); (case k1 => k_is); (case a2 => k_is); (case l2 => k_is); (case c2 => k_is); (case k2 => k_is); (case a3 => k_is); (case l3 => k_is); (case c3 => k_is); (case k3 => k_is); (case a4 => k_is); (case l4 => k_is); (case c4 => k_is); (case k4 => k_is); (case a5 => k_is); (case l5 => k_is); (case c5 => k_is); (case k5 => k_is); (case a6 => k_is); (case l6 => k_is); (case c6 => k_is); (case k6 => k_is); (case a7 => k_is); (case l7 => k_is); (case c7 => k_is); (case k7 => k_is); (case g_CLOCK => k_is); (case z_any => k_is); (case z_bool => k_is); (case z_dict => k_is); (case z_enumerate => k_is); (case z_isinstance => k_is); (case z_len => k_is); (case z_list => k_is); (case z_max => k_is); (case z_range => k_is); (case z_sorted => k_is); (case z_sum => k_is); (case z_tuple => k_is)
