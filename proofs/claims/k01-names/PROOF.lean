import PyProof.Rows.All
import Wide.All
import OpenK.AllK
import Wide.FinOn
import KE.KUnpackStar
import HandS.ForMost
import KE.SortData
import KE.KDictPairs
import PyProof.DictUpdate
import HandS.NoneIn
import PyProof.StrOps2
import PyProof.ReprReads
import PyProof.Rows.NestShow
import HandS.IsInst
import HandS.Flow
import HandS.Style
import HandS.Walk
import HandS.Evl
import HandS.Wide
import HandS.DictComp
import PySem.Challenge.RW_nestyard_k01_names_and_calcs
set_option Elab.async false
set_option linter.all false
set_option maxRecDepth 100000
set_option maxHeartbeats 4000000
set_option autoImplicit false
/-! Own rules over the hand layer: targets with a star. -/
namespace HX
open PySem PySem.Spec PySem.Calls PyProof.Rows L2
section
variable {prog : Program} {w : World} {A : Around} {E : Value → Shared → Prop} {s : Shared}
/-- the items of a tuple over n targets of which the i-th has a star -/
theorem star_run {t : Addr} {its : Array Value} {n i : Nat} {Q : List Value → Shared → Prop} (ht : IsTup s.heap t its) (hh : A.handled = none) (hi : i < n) (hn : n ≤ its.size + 1) (hz : its.size ≤ 16384)
    (q : ∀ (g : Heap) (tk : Nat), (∀ b o, s.heap.get? b = some o → g.get? b = some o) →
      Q (its.toList.take i ++ [.ref g.objs.size] ++ (its.toList.drop i).drop (its.size + 1 - n)) { s with heap := g.push { cls := .type "list", data := .seq ((its.toList.drop i).take (its.size + 1 - n)).toArray }, toks := tk }) :
    wpAny (model prog w) A (unpackItems (.ref t) n (some i)) Q E s := by
  have tlt : t < s.heap.objs.size := ht.lt
  have tne : t ≠ s.heap.objs.size := Nat.ne_of_lt tlt
  have lens : (its.toList.take i).length = i ∧ (its.toList.drop i).length = its.size - i := by
    refine ⟨?_, ?_⟩
    · rw [List.length_take, Array.length_toList]; omega
    · rw [List.length_drop, Array.length_toList]
  unfold unpackItems
  apply wpAny_bind
  unfold notIterableAtAll
  apply wpAny_bind
  refine wpAny_specialOf ht.typeIs slot_tuple_iter.lookup (wpAny_pure ?_)
  simp only [Bool.false_eq_true, if_false]
  apply wpAny_bind
  refine wpAny_holding (iter_tuple ht ?_)
  apply wpAny_bind
  refine wpAny_holding (draw_tuple tne i 0 _ _ ⟨_, Heap.get?_push_size _ rfl, rfl, rfl⟩ (ht.push _) (by omega) fun g1 it1 sb => ?_)
  have ht1 : IsTup g1 t its := (ht.push _).extBut sb.extBut tne
  rw [Nat.zero_add] at it1
  obtain ⟨oi, eoi, _⟩ := id it1
  rw [List.drop_zero, if_neg (show ¬ ((its.toList.take i).length < i) by rw [lens.1]; exact Nat.lt_irrefl _)]
  apply wpAny_bind
  refine wpAny_holding (PySem.W.kun_collect (s := { s with heap := g1 }) (T := "tuple_iterator") (.inr (.inr (.inr rfl))) (Walks.tuple (A := A.in1) hh s.heap.objs.size t tne its) (fun j u st => st.1.typeIs) (k := i) (by omega) ⟨it1, ht1⟩ (Heap.lt_size eoi) ht1.lt (fun g2 tk kp => ?_) (by rw [sizeLine_eq]; omega))
  have mid : (its.toList.drop i).length - (n - 1 - i) = its.size + 1 - n := by rw [lens.2]; omega
  have enough : ¬ ((its.toList.drop i).length < n - 1 - i) := by rw [lens.2]; omega
  show wpAny _ _ (if (its.toList.drop i).length < n - 1 - i then _ else _) _ _ _
  rw [if_neg enough]
  show wpAny _ _ (newList ((its.toList.drop i).take ((its.toList.drop i).length - (n - 1 - i))) >>= fun d => pure (its.toList.take i ++ [d] ++ (its.toList.drop i).drop ((its.toList.drop i).length - (n - 1 - i)))) _ _ _
  rw [mid]
  apply wpAny_bind
  refine wpAny_newList (wpAny_pure ?_) (by rw [List.length_take, lens.2, sizeLine_eq]; omega)
  exact q g2 tk fun b o e => kp b o (Nat.ne_of_lt (Heap.lt_size e)) (sb.extBut b o (Nat.ne_of_lt (Heap.lt_size e)) (Heap.get?_push_of_some _ e))
end
/-- (a, *b, c) = a tuple: the starred one is a new list -/
def gStar (K : PySem.W.Frag) (n i : Nat) (t : TGs) : TG := fun v σ H Q => ∃ a xs, v = .ref a ∧ SqT K H a xs ∧ n ≤ xs.length + 1 ∧ xs.length ≤ 16384 ∧
  ∀ p, H p = none → t (xs.take i ++ [.ref p] ++ (xs.drop i).drop (xs.length + 1 - n)) σ (upd H p (.lst ((xs.drop i).take (xs.length + 1 - n)))) Q
section
variable {X : Cx}
theorem pgs_star {e : Expr} {es : List Expr} {t : TG} {u : TGs} {p : Pos} (h1 : PG X e t) (h2 : PGs X es u) : PGs X (.Starred e p :: es) (gCons t u) := by
  constructor
  intro pins s σ H vs us Q I r h
  obtain ⟨v, vr, rfl, h⟩ := h
  cases r with
  | cons r rr =>
    show wpAny _ _ (assignInOrder (assign e X.env :: (assignEach es X.env).map (·.2)) _) _ _ _
    exact assignInOrder_cons (thn (h1.run pins s σ H _ _ _ I r h) fun _ s1 ⟨σ1, H1, I1, q1⟩ => h2.run pins s1 σ1 H1 _ _ Q I1 rr q1)
theorem pg_star {es : List Expr} {k : Nat} {t : TGs} {n i : Nat} {pos : Pos} (hc : X.calm = true) (h : PGs X es t)
    (hn : (assignEach es X.env).length = n := by rfl) (hst : (assignEach es X.env).findIdx? (·.1) = some i := by rfl) (hi : i < n := by decide) : PG X (.Tuple es k pos) (gStar X.K n i t) := by
  refine ⟨fun pins s σ H v u Q I r hw => ?_⟩
  obtain ⟨a, xs, e1, hq, hl, hz, hw⟩ := hw
  subst e1
  cases r
  obtain ⟨its, rv, ht, _⟩ := I.tuple hq
  have el : its.length = xs.length := rv.length.symm
  rw [assign_Tuple]
  refine wpAny_bind (wpAny_standAt ?_)
  unfold unpack
  rw [hn, hst]
  refine wpAny_bind (wpAny_holding (star_run ht (I.ok.hd hc) hi (by rw [List.size_toArray, el]; exact hl) (by rw [List.size_toArray, el]; exact hz) fun g tk kp => ?_))
  simp only [List.size_toArray, el]
  have I1 : Inv X pins σ H { s with heap := g, toks := tk } := I.kept kp
  have I2 : Inv X pins σ (upd H g.objs.size (.lst ((xs.drop i).take (xs.length + 1 - n)))) { s with heap := g.push { cls := .type "list", data := .seq ((its.drop i).take (xs.length + 1 - n)).toArray }, toks := tk } :=
    I1.laid (t' := tk) (fun b o q => Heap.get?_push_of_some _ q) (Nat.le_refl _)
      ⟨Nat.le_trans (Nat.le_trans (List.length_take_le' _ _) (by rw [List.length_drop]; exact Nat.sub_le _ _)) (Nat.le_trans hz (by rw [sizeLine_eq]; omega)), _, 0, (rv.drop i).take _, Heap.get?_push_size _ rfl⟩
  exact h.run pins _ σ _ _ _ Q I2 (((rv.take i).append (show Vals [V.ref g.objs.size] [Value.ref g.objs.size] from .cons rfl .nil)).append ((rv.drop i).drop _)) (hw _ (I1.hok.fresh (Nat.le_refl _)))
end
end HX
/-! Own rules over the hand layer: sorted of data; dict of a tuple of pairs; update by a dict; a tuple whose object is plain. -/
namespace HX
open PySem PySem.Spec PySem.Calls PyProof.Rows L2
open PySem.W (EachIs)
section
variable {K : PySem.W.Frag} {H H' : Hp}
theorem dpAll_len : ∀ {xs : List V} {ds : List PyData}, DpAll K H xs ds → xs.length = ds.length
  | _, _, .nil => rfl
  | _, _, .cons _ t => congrArg (· + 1) (dpAll_len t)
theorem each_len {α β : Type} {R : α → β → Prop} : ∀ {as : List α} {bs : List β}, EachIs R as bs → as.length = bs.length
  | _, _, .nil => rfl
  | _, _, .cons _ t => congrArg (· + 1) (each_len t)
theorem each_of_vals : ∀ {xs : List V} {us : List Value} {ds : List PyData}, Vals xs us → xs.length = ds.length → EachIs (fun (u : Value) (b : V × PyData) => RelV b.1 u) us (xs.zip ds)
  | _, _, [], r, h => by
    cases r with
    | nil => exact .nil
    | cons _ _ => cases h
  | _, _, d :: ds, r, h => by
    cases r with
    | nil => cases h
    | cons r t => exact .cons r (each_of_vals t (Nat.succ.inj h))
theorem vals_of_each : ∀ {us : List Value} {bs : List (V × PyData)}, EachIs (fun (u : Value) (b : V × PyData) => RelV b.1 u) us bs → Vals (bs.map (·.1)) us
  | _, _, .nil => .nil
  | _, _, .cons r t => .cons r (vals_of_each t)
theorem zip_snd : ∀ {xs : List V} {ds : List PyData}, xs.length = ds.length → (xs.zip ds).map (·.2) = ds
  | [], [], _ => rfl
  | x :: xs, d :: ds, h => by
    rw [List.zip_cons_cons, List.map_cons, zip_snd (Nat.succ.inj h)]
/-- the items, sorted by the data that they are -/
def sortD (xs : List V) (ds : List PyData) : List V := ((xs.zip ds).mergeSort (PySem.W.dataLe false (·.2))).map (·.1)
theorem sortD_perm {xs : List V} {ds : List PyData} (h : xs.length = ds.length) : (sortD xs ds).Perm xs := by
  have h1 := (List.mergeSort_perm (xs.zip ds) (PySem.W.dataLe false (·.2))).map (·.1)
  rwa [List.map_fst_zip (Nat.le_of_eq h)] at h1
def rSortD (K : PySem.W.Frag) : List V → Hp → VK → Prop := fun vs H Q => ∃ (a : Addr) (xs : List V) (ds : List PyData), vs = [V.ref a] ∧ SqL K H a xs ∧ DpAll K H xs ds ∧ PySem.W.AllAlike ds ∧ PySem.W.Sortable ds ∧ (∀ d ∈ ds, d.depth ≤ 60) ∧
  ∀ p, H p = none → Q (.ref p) (upd H p (.lst (sortD xs ds)))
end
section
variable {X : Cx} {pins : List (Addr × Obj)} {σ : L2.St} {H : Hp} {s : Shared}
theorem reads_each (I : Inv X pins σ H s) : ∀ {xs : List V} {us : List Value} {ds : List PyData}, Vals xs us → DpAll X.K H xs ds → EachIs (fun (u : Value) (b : V × PyData) => ∃ as, Reads s.heap u b.2 as) us (xs.zip ds)
  | _, _, _, .nil, .nil => .nil
  | _, _, _, .cons r t, .cons h k => .cons (Dp.reads I _ _ _ h r) (reads_each I t k)
theorem cr_sortD (hu : X.A.units + 64 < cLine) : CallR X (.builtin "sorted") (rSortD X.K) := by
  intro pins s σ H vs us Q I r h
  obtain ⟨a, xs, ds, rfl, hs, hd, hal, hk, hdep, q⟩ := h
  obtain ⟨its, rv, hl, hz⟩ := I.list hs
  rw [Vals.ref1 r]
  have el := dpAll_len hd
  have ez : (xs.zip ds).length = xs.length := by rw [List.length_zip, el, Nat.min_self]
  have e2 : (xs.zip ds).map (fun b : V × PyData => b.2) = ds := zip_snd el
  refine PySem.W.sorted_data (enc := fun b : V × PyData => b.2) hl.isList (each_of_vals rv el) (reads_each I rv hd) (by rw [e2]; exact hal) (by rw [e2]; exact hk) (by rw [ez]; exact hz) (fun b hb => ?_) fun out ho eo => ?_
  · have hb2 : b.2 ∈ ds := by rw [← e2]; exact List.mem_map.mpr ⟨b, hb, rfl⟩
    have := hdep _ hb2
    omega
  · obtain ⟨c, he⟩ := PyProof.Rows.sortedAll_at s.heap its out.toArray
    have hlen : (sortD xs ds).length ≤ sizeLine := by rw [(sortD_perm el).length_eq]; exact hz
    exact ⟨.ref _, upd H (s.heap.objs.size + 1) (.lst (sortD xs ds)), I.laid (t' := s.toks) (fun _ _ => PyProof.Rows.sortedAll_old) (Nat.le_succ _) ⟨hlen, out, c, vals_of_each eo, he⟩, rfl, q _ (I.hok.fresh (Nat.le_succ _))⟩
/-- tuple(list): its object has no dict of its own -/
def rTupP (K : PySem.W.Frag) : List V → Hp → VK → Prop := fun vs H Q => ∃ (a : Addr) (xs : List V), vs = [V.ref a] ∧ SqL K H a xs ∧ ∀ (p : Addr) (o : Obj), H p = none → o.dict = none → Q (.ref p) (upd H p (.frz o (.tup xs)))
theorem call_tupP : CallR X (.type "tuple") (rTupP X.K) := by
  intro pins s σ H vs us Q I r h
  obtain ⟨a, xs, rfl, hs, q⟩ := h
  obtain ⟨its, rv, hl, hz⟩ := I.list hs
  rw [Vals.ref1 r]
  have el := rv.length
  refine call_tuple_list hl.isList (fun g kp => ?_) (by rw [List.size_toArray, ← el]; exact hz)
  have I1 : Inv X pins σ H { s with heap := g } := I.kept (t' := s.toks) kp
  have e : (g.push { cls := .type "tuple", data := .seq its.toArray }).get? g.objs.size = some { cls := .type "tuple", data := .seq its.toArray } := Heap.get?_push_size _ rfl
  exact ⟨.ref g.objs.size, _, I1.laid (t' := s.toks) (fun _ _ k => Heap.get?_push_of_some _ k) (Nat.le_refl _) (show ObjOk X.prog X.w _ _ _ (.frz _ (.tup xs)) from ⟨e, hz, its, rv, _, e, rfl, _, rfl⟩), rfl, q _ _ (I1.hok.fresh (Nat.le_refl _)) rfl⟩
end
end HX
namespace HX
open PySem PySem.Spec PySem.Calls PyProof.Rows L2
open PySem.W (EachIs)
section
variable {X : Cx} {pins : List (Addr × Obj)} {σ : L2.St} {H : Hp} {s : Shared}
theorem pairs_v (I : Inv X pins σ H s) : ∀ {ps : List Addr} {kvs : List (Key × V)}, Paired (fun p kv => SqT X.K H p [kV kv.1, kv.2]) ps kvs →
    ∃ (prs : List (Key × Value)) (rs : List (Value × Value)), KV kvs prs ∧ prs.length = ps.length ∧ rs.length = ps.length ∧
      ∀ (j : Nat) (k v : Value), rs[j]? = some (k, v) → ∃ (b : Addr) (key : Key), ps[j]? = some b ∧ IsTup s.heap b #[k, v] ∧ prs[j]? = some (key, v) ∧ keyIs key k = true
  | _, _, .nil => ⟨[], [], .nil, rfl, rfl, fun j k v e => by simp at e⟩
  | _, _, .cons (a := p) (b := kv) h t => by
    obtain ⟨prs, rs, r, l1, l2, hp⟩ := pairs_v I t
    obtain ⟨its, rv, ht, _⟩ := I.tuple h
    obtain ⟨u, y, ei, ru, ry⟩ := vals2 rv
    subst ei
    refine ⟨(kv.1, y) :: prs, (u, y) :: rs, .cons ⟨rfl, ry⟩ r, congrArg (· + 1) l1, congrArg (· + 1) l2, fun j k v e => ?_⟩
    cases j with
    | zero =>
      obtain ⟨rfl, rfl⟩ := Prod.mk.inj (Option.some.inj e)
      exact ⟨p, kv.1, rfl, ht, rfl, kV_is (P := X.prog) (w := X.w) ru⟩
    | succ j => exact hp j k v e
/-- dict(t), t a plain tuple of pairs -/
def rDictT (K : PySem.W.Frag) : List V → Hp → VK → Prop := fun vs H Q => ∃ (a : Addr) (o : Obj) (ps : List Addr) (kvs : List (Key × V)), vs = [.ref a] ∧ H a = some (.frz o (.tup (ps.map V.ref))) ∧ o.dict = none ∧ Paired (fun p kv => SqT K H p [kV kv.1, kv.2]) ps kvs ∧
  ∀ p, H p = none → Q (.ref p) (upd H p (.dK (mergeK [] kvs)))
theorem call_dictT (hcalm : X.calm = true) : CallR X (.type "dict") (rDictT X.K) := by
  intro pins s σ H vs us Q I r h
  obtain ⟨a, o, ps, kvs, rfl, ha, od, hp, q⟩ := h
  rw [Vals.ref1 r]
  obtain ⟨ho, hz, its, rv, o2, ho2, hc, n, hd⟩ := (show ObjOk X.prog X.w H s.heap a (.frz o (.tup (ps.map V.ref))) from I.hok a _ ha)
  rw [ho] at ho2
  cases ho2
  have ei := refs_at rv
  subst ei
  rw [List.length_map] at hz
  obtain ⟨prs, rs, rel, l1, l2, hq⟩ := pairs_v I hp
  refine PySem.call_dict_pairs (knd := mixKind X.prog X.w) (kvs := prs) (PairArg.tuple a (ps.map Value.ref).toArray (fun j => ps[j]?.getD 0) rs) (I.ok.hd hcalm) ⟨⟨o, n, ho, hc, od, hd⟩, by simp [l2], fun j k v e => ?_⟩ ⟨by rw [l1, l2], fun i k v e => ?_⟩ (by rw [l2]; exact hz) fun h' tk hd' kp => ?_
  · obtain ⟨b, key, e1, e2, _⟩ := hq j k v e
    have e5 : s.heap.IsTuple b #[k, v] := e2
    exact ⟨by simp [e1], .inl (by simpa [e1] using e5)⟩
  · obtain ⟨b, key, e1, e2, e3, e4⟩ := hq i k v e
    exact ⟨key, e3, e4⟩
  · have hm : (s.heap.objs.size == sysModules) = false := beq_eq_false_iff_ne.mpr (Nat.ne_of_gt I.big)
    have hlen : (mergeK [] kvs).length ≤ sizeLine := by
      refine Nat.le_trans (length_mergeK kvs []) ?_
      rw [List.length_nil, Nat.zero_add, rel.length, l1]
      exact hz
    exact ⟨.ref s.heap.objs.size, upd H s.heap.objs.size (.dK (mergeK [] kvs)), I.laid (t' := tk) (fun b o e => kp b o (by simp) e) (Nat.le_refl _) (show ObjOk X.prog X.w _ _ _ (.dK (mergeK [] kvs)) from ⟨hlen, hm, merged [] prs, KV.merge rel .nil, hd'⟩), rfl, q _ (I.hok.fresh (Nat.le_refl _))⟩
end
end HX
/-! Own rules: dict(d), text * number. -/
namespace HX
open PySem PySem.Spec PySem.Calls PyProof.Rows L2
section
variable {X : Cx}
/-- dict(d): a new dict of the same pairs -/
def rDictC : List V → Hp → VK → Prop := fun vs H Q => ∃ (a : Addr) (kvs : List (Key × V)), vs = [.ref a] ∧ Rd H a (.dK kvs) ∧ ∀ p, H p = none → Q (.ref p) (upd H p (.dK kvs))
theorem call_dictC : CallR X (.type "dict") rDictC := by
  intro pins s σ H vs us Q I r h
  obtain ⟨a, kvs, rfl, e, q⟩ := h
  rw [Vals.ref1 r]
  exact d_copyOf I e fun p s' hp I' => ⟨.ref p, _, I', rfl, q p hp⟩
/-- a text so many times -/
def times (x : Str) (n : Nat) : Str := ⟨((List.replicate n x.cps.toList).flatten).toArray⟩
theorem times_len (x : Str) (n : Nat) : (times x n).length = n * x.length := by
  show (List.flatten _).toArray.size = n * x.cps.size
  rw [List.size_toArray, List.length_flatten, List.map_replicate, List.sum_replicate_nat, Array.length_toList]
theorem fold_rep (c : Array Nat) : ∀ (n : Nat) (acc : Array Nat), ((List.replicate n c).foldl (· ++ ·) acc).toList = acc.toList ++ (List.replicate n c.toList).flatten
  | 0, acc => by simp
  | n + 1, acc => by
    rw [List.replicate_succ, List.foldl_cons, fold_rep c n, List.replicate_succ, List.flatten_cons, Array.toList_append, List.append_assoc]
def rTimes : R2 := fun x y H Q => ∃ (z : Str) (n : Nat), x = .str z ∧ y = .int (n : Int) ∧ n ≤ 1000 ∧ z.length ≤ 10000 ∧ Q (.str (times z n)) H
theorem op_times : OpR X (binaryOp .Mult) rTimes := by
  intro pins s σ H x y v u Q I rx ry h
  obtain ⟨z, n, rfl, rfl, hn, hz, q⟩ := h
  obtain ⟨t, rfl⟩ := rx
  obtain ⟨t', rfl⟩ := ry
  have hm : z.length * n ≤ 10000 * 1000 := Nat.mul_le_mul hz hn
  refine PySem.P.mul_str (by simp only [Bool.or_eq_false_iff, decide_eq_false_iff_not]; omega) (fun h1 _ => ?_) (fun _ _ => ?_) ?_
  · have h2 : (0 : Int) < (n : Int) := by omega
    have h3 : (z.length : Int) ≤ (2 ^ 63 - 1) / (n : Int) := Int.le_ediv_of_mul_le h2 (by rw [← Int.natCast_mul]; omega)
    omega
  · rw [Int.toNat_natCast]
    show decide (z.length * n > sizeLine) = false
    rw [decide_eq_false_iff_not, sizeLine_eq]
    omega
  · have fin : ∀ (w : Str), w = times z n → w.length ≤ sizeLine ∧ EP X pins σ Q (.str w s.toks) { s with toks := s.toks + 1 } := fun w e => by
      subst e
      refine ⟨?_, .str (times z n), H, I.tok _, ⟨_, rfl⟩, q⟩
      rw [times_len, Nat.mul_comm, sizeLine_eq]
      omega
    by_cases h0 : n = 0
    · subst h0
      rw [if_pos (by decide)]
      exact fin _ rfl
    · rw [if_neg (show ¬ ((n : Int) < 1) by omega)]
      by_cases h1 : ((n : Int) == 1 || z.length == 0) = true
      · rw [if_pos h1]
        have e : z = times z n := by
          rcases Bool.or_eq_true_iff.mp h1 with h | h
          · have : n = 1 := by have := eq_of_beq h; omega
            subst this
            show z = ⟨([z.cps.toList].flatten).toArray⟩
            simp
          · have hz0 : z.cps = #[] := Array.size_eq_zero_iff.mp (eq_of_beq h)
            show z = ⟨((List.replicate n z.cps.toList).flatten).toArray⟩
            rw [hz0]
            obtain ⟨c⟩ := z
            simp only at hz0
            subst hz0
            congr 1
            induction n with
            | zero => rfl
            | succ m ih =>
              rw [List.replicate_succ, List.flatten_cons]
              by_cases hm0 : m = 0
              · subst hm0; rfl
              · simp
        exact ⟨.str (times z n), H, I, ⟨t, by rw [← e]⟩, q⟩
      · rw [if_neg h1]
        refine fin _ ?_
        show (⟨_⟩ : Str) = ⟨_⟩
        congr 1
        apply Array.toList_inj.mp
        rw [Int.toNat_natCast, fold_rep]
        simp
end
end HX
/-! Own layer: a def's promise where nothing is being shown by repr around it (FnG), so that repr of lists and tuples can be read. -/
namespace HG
open PySem PySem.Spec PySem.Calls PyProof.Rows L2
/-- nothing is being shown -/
abbrev Shut (A : Around) : Prop := A.guards = some []
structure FnG (P : Program) (w : World) (K : PySem.W.Frag) (mg : Str → Option Value) (base : Heap) (CX : CXT) (k : Nat) (f : Addr) (fd : FuncData) (ps : List Str) (sp : Sp) : Prop where
  len : ∀ vs H Q E, sp vs H Q E → vs.length = ps.length
  go : ∀ (A : Around) (fr : List Env) (s : Shared) (H : Hp) (ar : Args) (us : List Value) (vs : List V) (Q : VK) (E : XK), Shut A → Room k A → Env0 P w K mg base A fr s H →
    BindsTo s fd ar (ps.zip us) → Vals vs us → sp vs H Q E → codeAny (model P w) A (.call (.ref f) ar) (CR CX fr P w H s Q E) s
section
variable {P : Program} {w : World} {K : PySem.W.Frag} {mg : Str → Option Value} {base : Heap} {CX : CXT} {j k : Nat} {f : Addr} {fd : FuncData} {ps : List Str} {sp sp' : Sp}
theorem FnG.of (F : FnOk P w K mg base CX k f fd ps sp) : FnG P w K mg base CX k f fd ps sp :=
  ⟨F.len, fun A fr s H ar us vs Q E _ hr e0 hb hv hs => F.run A fr s H ar us vs Q E hr e0 hb hv hs⟩
theorem FnG.mono (F : FnG P w K mg base CX j f fd ps sp) (h : j ≤ k) : FnG P w K mg base CX k f fd ps sp :=
  ⟨F.len, fun A fr s H ar us vs Q E g hr => F.go A fr s H ar us vs Q E g (hr.mono h)⟩
theorem FnG.imp (F : FnG P w K mg base CX k f fd ps sp) (h : ∀ vs H Q E, sp' vs H Q E → sp vs H Q E) : FnG P w K mg base CX k f fd ps sp' :=
  ⟨fun vs H Q E q => F.len vs H Q E (h _ _ _ _ q), fun A fr s H ar us vs Q E g hr e0 hb hv hs => F.go A fr s H ar us vs Q E g hr e0 hb hv (h _ _ _ _ hs)⟩
end
section
variable {X : Cx} {CX : CXT} {k : Nat} {f C : Addr} {fd : FuncData} {ps ks : List Str} {sp : Sp} {dvs : List V} {ds : List Value} {E : XK} {x m : Str} {p pos apos : Pos} {e o : Expr} {es : List Expr} {ta : TE} {t : TA} {kws : List Keyword} {tk : TA}
theorem go_fn {pins : List (Addr × Obj)} {σ : L2.St} {H : Hp} {s : Shared} {Q : VK} {us : List Value} {vs : List V} (F : FnG X.prog X.w X.K X.mg X.base CX k f fd ps sp) (sh : Shut X.A) (hr : Room k X.A) (hb : L2.Binds X.K fd ps ds) (hd : Vals dvs ds)
    (hx : Passes CX X E) (I : Inv X pins σ H s) (r : Vals vs us) (h : sp (vs ++ dvs) H Q E) : wpAny (model X.prog X.w) X.A (call (.ref f) us) (EP X pins σ Q) X.xe s := by
  have r2 : Vals (vs ++ dvs) (us ++ ds) := r.append hd
  have hl := r2.length.symm.trans (F.len _ _ _ _ h)
  have one := F.go X.A X.stack s H ⟨us, []⟩ (us ++ ds) (vs ++ dvs) Q E sh hr I.env0 (hb s us I.kIn hl) r2 h
  refine wpAny_call (codeAny_mono one fun res s' hq => ?_)
  match res, hq with
  | .error e, hq => exact hx pins σ H s e s' I hq
  | .ok (.ret u), hq => exact I.after hq
theorem pe_callG (F : FnG X.prog X.w X.K X.mg X.base CX k f fd ps sp) (sh : Shut X.A) (hr : Room k X.A) (hg : Gl X x) (hm : X.mg x = some (.ref f)) (hk : PySem.W.keepIn X.K (.ref f) = true) (hb : L2.Binds X.K fd ps ds) (hd : Vals dvs ds)
    (hx : Passes CX X E) (ha : PA X (e :: es) t) (hdb : (x == ("__debug__" : Str)) = false := by decide) (he : starEach (e :: es) X.env = (false, eval e X.env) :: starEach es X.env := by rfl)
    (hpl : (backTo pos (starEach es X.env)).any (·.1) = false := by rfl) : PE X (.Call (.Name x p) (e :: es) [] pos) (tCall sp dvs E t) := by
  constructor
  intro pins s σ H Q I h
  apply wpAny_Call_Name_kw
  apply ld_glob I hg hm _ hdb
  exact PySem.W.callWith_K (h₀ := X.base) I.ok.mod.kin hk (thn (ha.run pos pins s σ H _ I h) fun us s1 ⟨vs, H1, I1, r, q⟩ => ⟨I1.kIn, go_fn F sh hr hb hd hx I1 r q⟩) he hpl
theorem pe_callG0 (F : FnG X.prog X.w X.K X.mg X.base CX k f fd ps sp) (sh : Shut X.A) (hr : Room k X.A) (hg : Gl X x) (hm : X.mg x = some (.ref f)) (hk : PySem.W.keepIn X.K (.ref f) = true) (hb : L2.Binds X.K fd ps ds) (hd : Vals dvs ds)
    (hx : Passes CX X E) (hdb : (x == ("__debug__" : Str)) = false := by decide) : PE X (.Call (.Name x p) [] [] pos) (tCall sp dvs E tNil) := by
  constructor
  intro pins s σ H Q I h
  apply wpAny_Call_Name_kw
  apply ld_glob I hg hm _ hdb
  exact PySem.W.callWith_K0 I.kIn hk (go_fn (us := []) F sh hr hb hd hx I .nil h)
theorem pe_methG {pl : Sem Bool} (he : PE X o ta) (c : Cls X.K C) (hm : Meth X.K C m f) (F : FnG X.prog X.w X.K X.mg X.base CX k f fd ps sp) (sh : Shut X.A) (hr : Room k X.A) (hb : L2.Binds X.K fd ps ds) (hd : Vals dvs ds) (hx : Passes CX X E) (ha : PA X (e :: es) t)
    (hst : starEach (e :: es) X.env = (false, eval e X.env) :: starEach es X.env := by rfl) (hpl : (backTo pos (starEach es X.env)).any (·.1) = false := by rfl)
    (ht : eval (.Call (.Attribute o m apos) (e :: es) [] pos) X.env = (eval o X.env >>= fun ov => standAt apos.atName >>= fun _ => holding [ov] (getMethod ov m pl) >>= fun fa =>
      callWith pos fa.1 fa.2 (backTo pos (starEach (e :: es) X.env)) (backToKw pos (keywordEach [] X.env))) := by rfl) : PE X (.Call (.Attribute o m apos) (e :: es) [] pos) (tMeth C m sp dvs E ta t) := by
  constructor
  intro pins s σ H Q I h
  refine PySem.W.methodCall_KW (pl := pl) (thn (he.run pins s σ H _ I h) fun u s1 ⟨y, H1, I1, rx, a, dx, fs, ex, ea, l, q⟩ => ?_) ht
  subst ex
  have eu : u = Value.ref a := rx
  subst eu
  refine getmeth_ok I1 ea c hm l ?_
  exact PySem.W.callWith_K (first := [.ref a]) (h₀ := X.base) I.ok.mod.kin hm.kp (thn (ha.run pos pins s1 σ H1 _ I1 q) fun us s2 ⟨vs, H2, I2, r, q2⟩ => ⟨I2.kIn, go_fn (us := .ref a :: us) (vs := .ref a :: vs) F sh hr hb hd hx I2 (.cons rfl r) q2⟩) hst hpl
theorem pe_methG0 {pl : Sem Bool} (he : PE X o ta) (c : Cls X.K C) (hm : Meth X.K C m f) (F : FnG X.prog X.w X.K X.mg X.base CX k f fd ps sp) (sh : Shut X.A) (hr : Room k X.A) (hb : L2.Binds X.K fd ps ds) (hd : Vals dvs ds) (hx : Passes CX X E)
    (ht : eval (.Call (.Attribute o m apos) [] [] pos) X.env = (eval o X.env >>= fun ov => standAt apos.atName >>= fun _ => holding [ov] (getMethod ov m pl) >>= fun fa =>
      callWith pos fa.1 fa.2 (backTo pos (starEach [] X.env)) (backToKw pos (keywordEach [] X.env))) := by rfl) : PE X (.Call (.Attribute o m apos) [] [] pos) (tMeth C m sp dvs E ta tNil) := by
  constructor
  intro pins s σ H Q I h
  refine PySem.W.methodCall_KW (pl := pl) (thn (he.run pins s σ H _ I h) fun u s1 ⟨y, H1, I1, rx, a, dx, fs, ex, ea, l, q⟩ => ?_) ht
  subst ex
  have eu : u = Value.ref a := rx
  subst eu
  refine getmeth_ok I1 ea c hm l ?_
  exact PySem.W.callWith_K0 (first := [.ref a]) I1.kIn hm.kp (go_fn (us := [.ref a]) (vs := [.ref a]) F sh hr hb hd hx I1 (.cons rfl .nil) q)
end
section
variable {P : Program} {w : World} {K : PySem.W.Frag} {mg : Str → Option Value} {base : Heap}
/-- a def of the text: its body, nothing being shown around it -/
theorem okG {x qual : Str} {st : Stmt} {f : Addr} {fd : FuncData} {N ps : List Str} {k : Nat} {sp : Sp} {CX : CXT} (F : Fun K x qual st f fd) (S : FnScope N ps (defScope st)) (len : ∀ vs H Q E, sp vs H Q E → vs.length = ps.length)
    (body : ∀ (cdv : Value) (A : Around) (fr : List Env) (s : Shared) (H : Hp) (vs : List V) (Q : VK) (E : XK), Shut (A.deeper (envOfC qual (defScope st) s.heap.objs.size f cdv)) → Room k (A.deeper (envOfC qual (defScope st) s.heap.objs.size f cdv)) → sp vs H Q E →
      ∃ t, PSs (cxOf CX P w K mg base N qual (defScope st) f cdv A fr s H E) (defBody st) t ∧ t { nx := fun _ H' => Q .non H', rt := Q } (start N vs) H) : FnG P w K mg base CX (k + 1) f fd ps sp := by
  obtain ⟨oc, od, kV, doc, pm, an, cdv, ct, osl, rfl, lk, hcd⟩ := F.ex
  refine ⟨len, fun A fr s H ar us vs Q E sh hr e0 hb r hsp => ?_⟩
  have KX : K.In s.heap := e0.mod.kin.keeps fun b o e => (e0.bs b o e).1
  have lim : s.heap.NoLimit := e0.mod.nolimit.keeps fun b o e => (e0.bs b o e).1
  have kinds : ∀ y ∈ ps.zip us, (defScope st).names.lookup y.1 = some .local ∨ ((defScope st).names.lookup y.1 = some .cell ∧ ((cellsFrom (s.heap.objs.size + 1) (defScope st).names []).lookup y.1).isSome = true) := by
    rintro ⟨n, v⟩ hy
    exact (S.par n (List.of_mem_zip hy).1).imp id fun q => ⟨q, PySem.W.cellsFrom_some _ _ _ (.inl q)⟩
  refine codeAny_call_function hr.depth (KX _ _ lk) rfl S.co S.gen rfl (PySem.W.codeRec_of KX hcd) (hb _ _ _ _ ?_)
  refine wpAny_newFunctionEnv_cells S.kind kinds fun env he s1 y => ?_
  subst he
  refine ⟨lim.keeps y.toInCall.keep, codeAny_func ?_⟩
  obtain ⟨t, ht, hq⟩ := body cdv A fr s H vs Q E sh (hr.deeper _) hsp
  have I : Inv (cxOf CX P w K mg base N qual (defScope st) f cdv A fr s H E) [] (start N vs) H s1 := inv_start S hr.hd e0 (len _ _ _ _ hsp) r y
  refine wpAny_mono (ht.run [] s1 (start N vs) H _ I hq) (fun fl s' hs => ?_) fun _ _ hs => hs
  match fl, hs with
  | .ret u, ⟨v, _, H', J, rv, q⟩ => exact ⟨v, H', J.os, J.bare, J.base, J.hok, rv, q⟩
  | .next, ⟨_, H', J, q⟩ => exact ⟨V.non, H', J.os, J.bare, J.base, J.hok, rfl, q⟩
  | .brk, ⟨_, _, _, q⟩ => exact q.elim
  | .cont, ⟨_, _, _, q⟩ => exact q.elim
/-- .. where nothing is raised -/
theorem okGn {x qual : Str} {st : Stmt} {f : Addr} {fd : FuncData} {N ps : List Str} {k : Nat} {sp : Sp} {CX : CXT} (F : Fun K x qual st f fd) (S : FnScope N ps (defScope st)) (len : ∀ vs H Q E, sp vs H Q E → vs.length = ps.length)
    (body : ∀ (cdv : Value) (A : Around) (fr : List Env) (s : Shared) (H : Hp) (vs : List V) (Q : VK) (E : XK), Shut (A.deeper (envOfC qual (defScope st) s.heap.objs.size f cdv)) → Room k (A.deeper (envOfC qual (defScope st) s.heap.objs.size f cdv)) → sp vs H Q E →
      ∃ t, PSs (cxOf CX P w K mg base N qual (defScope st) f cdv A fr s H E).nox (defBody st) t ∧ t { nx := fun _ H' => Q .non H', rt := Q } (start N vs) H) : FnG P w K mg base CX (k + 1) f fd ps sp :=
  okG F S len fun cdv A fr s H vs Q E sh hr h => let ⟨t, h1, h2⟩ := body cdv A fr s H vs Q E sh hr h; ⟨t, h1.nox, h2⟩

end

/-- the law's own call, over what the top has left -/
theorem law_callG {P : Program} {w : World} {K : PySem.W.Frag} {mg mb : Str → Option Value} {CX : CXT} {k : Nat} {fa a : Addr} {fd : FuncData} {x : Str} {sp : Sp} {s₁ : Shared} {vs : List Value} {ns : List Int}
    (KX : K.In s₁.heap) (hns : s₁.heap.Ns mainGlobals mg) (hb : s₁.heap.Ns builtinsNs mb) (hbb : ∀ x : Str, x ≠ "__name__" → mb x = bootBuiltins x) (hlim : s₁.heap.NoLimit) (hg : s₁.gens = #[])
    (ha : s₁.heap.get? a = some { cls := .type "list", data := .seq vs.toArray }) (hi : IntsAre vs ns) (hl : ns.length ≤ sizeLine) (hr : Room k callerA)
    (F : ∀ base : Heap, K.In base → base.Ns mainGlobals mg → FnG P w K mg base CX k fa fd [x] sp) (hbind : ∀ (s : Shared) (u : Value), BindsTo s fd ⟨[u], []⟩ [(x, u)])
    (hsp : ∀ H : Hp, Only H → SqL K H a (ns.map V.int) → sp [.ref a] H (fun v _ => v = .bl true) fun _ _ _ => False) (hCX : ∀ H e s', CX [] H s₁ (fun _ _ _ => False) e s' → False) :
    codeAny (model P w) callerA (.call (.ref fa) ⟨[.ref a], []⟩) (fun r s' => r = .ok (.ret (.bool true)) ∧ OldK s₁.heap s'.heap ∧ s'.os = s₁.os ∧ AllBare s'.gens) s₁ := by
  have rv := vals_ints hi
  have lenV := hi.length
  have core : ∀ H : Hp, Only H → SqL K H a (ns.map V.int) → HOk P w H s₁.heap → (∀ b, H b ≠ none → b = a) → (H a ≠ none → K.lookup a = none) →
      codeAny (model P w) callerA (.call (.ref fa) ⟨[.ref a], []⟩) (fun r s' => r = .ok (.ret (.bool true)) ∧ OldK s₁.heap s'.heap ∧ s'.os = s₁.os ∧ AllBare s'.gens) s₁ := by
    intro H hO hS hok hA hK
    have dictless : ∀ {b : Addr} {o : Obj} {es : Array DictEntry} {ep : Nat}, s₁.heap.get? b = some o → o.data = .dict es ep → H b = none := by
      intro b o es ep e d
      match q : H b with
      | none => rfl
      | some u =>
        have e' := hA b (by rw [q]; simp)
        subst e'
        rw [ha] at e
        cases e
        exact absurd d (by simp)
    have nsK : ∀ {b : Addr} {m : Str → Option Value}, s₁.heap.Ns b m → (hidT s₁.heap H).Ns b m := fun ⟨o, es, ep, e, d, r⟩ => ⟨o, es, ep, hidT_get e (dictless e d), d, r⟩
    have hKb : K.In (hidT s₁.heap H) := by
      intro b o e
      refine hidT_get (KX b o e) ?_
      match q : H b with
      | none => rfl
      | some u =>
        have e' := hA b (by rw [q]; simp)
        subst e'
        rw [hK (by rw [q]; simp)] at e
        cases e
    obtain ⟨mc, lim1, lim2⟩ := hlim
    have e0 : Env0 P w K mg (hidT s₁.heap H) callerA [] s₁ H :=
      ⟨rfl, ⟨hKb, nsK hns, ⟨mb, nsK hb, hbb⟩, ⟨mc, nsK lim1, lim2⟩⟩, fun _ _ e => of_hidT e, Nat.le_of_eq (hidT_size _ _), trivial, fun b z => absurd (show b ∈ ([] : List Addr) from z) (by simp), hok, .of_eq hg⟩
    refine codeAny_mono ((F _ hKb (nsK hns)).go callerA [] s₁ H ⟨[.ref a], []⟩ [.ref a] [.ref a] _ _ rfl hr e0 (hbind s₁ (.ref a)) (.cons rfl .nil) (hsp H hO hS)) fun r s' h => ?_
    match r, h with
    | .error e, h => exact (hCX H e s' h).elim
    | .ok (.ret u), ⟨v, H', os, bare, un, hok', r', q⟩ =>
      have q' : v = .bl true := q
      subst q'
      have eu : u = Value.bool true := r'
      subst eu
      refine ⟨rfl, OldK.of_keep fun b o e => ?_, os, bare⟩
      match q : H b with
      | none => exact un.keep b o e q (fun z => absurd (show b ∈ ([] : List Addr) from z) (by simp)) (by simp)
      | some u =>
        rcases hO b with z | ⟨ob, xs, z⟩
        · rw [q] at z
          cases z
        · have e1 := (hok b _ z).1
          have e2 := (hok' b _ (un.frzs b ob _ z)).1
          rw [e] at e1
          cases e1
          exact e2
  match hk : K.lookup a with
  | some o =>
    have e := KX a o hk
    rw [ha] at e
    cases e
    exact core (fun _ => none) (fun _ => .inl rfl) (.inr ⟨_, vs.toArray, _, hk, rfl, rfl, rfl, by rw [List.size_toArray, lenV]; exact hl, by simpa using rv⟩) (fun b u z => by have z' : (none : Option HO) = some u := z; cases z') (fun b z => absurd rfl z) fun z => absurd rfl z
  | none =>
    have at_a : ∀ b, b = a → (fun c => if c = a then some (HO.frz { cls := .type "list", data := .seq vs.toArray } (.lst (ns.map V.int))) else none : Hp) b = some (.frz { cls := .type "list", data := .seq vs.toArray } (.lst (ns.map V.int))) := fun b hb => if_pos hb
    have off_a : ∀ b, b ≠ a → (fun c => if c = a then some (HO.frz { cls := .type "list", data := .seq vs.toArray } (.lst (ns.map V.int))) else none : Hp) b = none := fun b hb => if_neg hb
    refine core (fun c => if c = a then some (HO.frz { cls := .type "list", data := .seq vs.toArray } (.lst (ns.map V.int))) else none) (fun b => ?_) (.inl (.inr ⟨_, at_a a rfl⟩)) (fun b u z => ?_) (fun b z => ?_) fun _ => hk
    · by_cases hb : b = a
      · exact .inr ⟨_, _, at_a b hb⟩
      · exact .inl (off_a b hb)
    · by_cases hb : b = a
      · rw [at_a b hb] at z
        cases z
        subst hb
        exact ⟨ha, by rw [List.length_map]; exact hl, vs, _, rv, ha⟩
      · rw [off_a b hb] at z
        cases z
    · by_cases hb : b = a
      · exact hb
      · exact absurd (off_a b hb) z
theorem walk_ofG {l : PySem.W.OpenLaw} {n k : Nat} {q : Program} {loose : List Str} {XP : (Str → Option Value) → Heap → Prop} {YP : World → Heap → Prop} {d : DefRec} {K : Params → PySem.W.Frag} {CX : World → CXT} {sp : World → Sp} {x : Str}
    (hn : l.most = some n) (hn2 : n ≤ sizeLine) (hdf : d.params.defaults = []) (hr : Room k callerA) (hY : ∀ (w : World) (h : Heap), YP w h → (K w.params).In h)
    (F : ∀ (w : World) (mg : Str → Option Value) (fa : Addr) (h : Heap), (K w.params).In h → h.Ns mainGlobals mg → mg d.name = some (.ref fa) →
      ∃ fd : FuncData, (∀ (s : Shared) (u : Value), BindsTo s fd ⟨[u], []⟩ [(x, u)]) ∧ ∀ base : Heap, (K w.params).In base → base.Ns mainGlobals mg → FnG l.prog w (K w.params) mg base (CX w) k fa fd [x] (sp w))
    (hsp : ∀ (w : World) (H : Hp) (a : Addr) (ns : List Int), ns.length ≤ n → Only H → SqL (K w.params) H a (ns.map V.int) → sp w [.ref a] H (fun v _ => v = .bl true) fun _ _ _ => False)
    (hCX : ∀ (w : World) (H : Hp) (s : Shared) (e : Value) (s' : Shared), CX w [] H s (fun _ _ _ => False) e s' → False) : PySem.W.WalkO q loose XP YP l.row.toRowW d [] (fun f vs => PySem.call f vs) := by
  refine Att.attach_call hn hdf ?_
  intro w s₀ s₁ mg mb fa o pm cd doc a vs ns G Y _ _ _ hmg hobj hints hlen hg
  obtain ⟨fd, hb, hF⟩ := F w mg fa _ (hY w _ Y) G.T.g hmg
  exact law_callG (hY w _ Y) G.T.g G.T.b G.T.builtins G.T.nolimit hg hobj hints (Nat.le_trans hlen hn2) hr hF hb (fun H hO hS => hsp w H a ns hlen hO hS) (hCX w · s₁ · ·)
/-! ### repr of data -/
def rRepr (K : PySem.W.Frag) : List V → Hp → VK → Prop := fun vs H Q => ∃ (x : V) (d : PyData), vs = [x] ∧ Dp K H x d ∧ isDisplay d = true ∧ d.showable = true ∧ d.hasDict = false ∧ d.depth ≤ 60 ∧ d.shown.length ≤ sizeLine ∧ Q (.str d.shown) H
section
variable {X : Cx}
theorem call_reprD (sh : Shut X.A) (hu : X.A.units + 64 < cLine) : CallR X (.builtin "repr") (rRepr X.K) := by
  intro pins s σ H vs us Q I r h
  obtain ⟨x, d, rfl, hd, di, sw, nd, dep, len, q⟩ := h
  obtain ⟨u, rfl, rx⟩ := vals1 r
  obtain ⟨as, r1⟩ := Dp.reads I d x u hd rx
  obtain ⟨a, rfl⟩ := isRef_of_reads r1 di
  exact repr_of_reads' r1 sw (PyData.noDict_hsm nd) sh (by omega) (fun _ _ e => e) (fun h' u tk hk => ⟨.str d.shown, H, I.kept hk, ⟨u, rfl⟩, q⟩) len
end
end HG
/-! Own short words. -/
namespace HB
open PySem PySem.Spec PyProof.Rows L2
/-- a def of the top, bound under its name -/
structure Df (K : PySem.W.Frag) (mg : Str → Option Value) (nm qual : Str) (st : Stmt) (ps : List Str) (f : Addr) (fd : FuncData) : Prop where
  F : Fun K nm qual st f fd
  b : L2.Binds K fd ps []
  g : mg nm = some (.ref f)
section
variable {X : Cx} {k : Nat} {f : Addr} {fd : FuncData} {ps : List Str} {sp : Sp} {x qual : Str} {st : Stmt} {p pos : Pos} {e : Expr} {es : List Expr} {t : TA}
theorem pcall (D : Df X.K X.mg x qual st ps f fd) (G : FnOk X.prog X.w X.K X.mg X.base CX0 k f fd ps sp) (hr : Room k X.A) (hg : Gl X x) (ha : PA X (e :: es) t) (hdb : (x == ("__debug__" : Str)) = false := by decide)
    (he : starEach (e :: es) X.env = (false, eval e X.env) :: starEach es X.env := by rfl) (hpl : (backTo pos (starEach es X.env)).any (·.1) = false := by rfl) : PE X (.Call (.Name x p) (e :: es) [] pos) (tCall sp [] E0 t) :=
  pe_call G hr hg D.g D.F.kp D.b .nil pass0 ha hdb he hpl
theorem pcall0 (D : Df X.K X.mg x qual st ps f fd) (G : FnOk X.prog X.w X.K X.mg X.base CX0 k f fd ps sp) (hr : Room k X.A) (hg : Gl X x) (hdb : (x == ("__debug__" : Str)) = false := by decide) : PE X (.Call (.Name x p) [] [] pos) (tCall sp [] E0 tNil) :=
  pe_call0 G hr hg D.g D.F.kp D.b .nil pass0 hdb
theorem gcall (D : Df X.K X.mg x qual st ps f fd) (G : HG.FnG X.prog X.w X.K X.mg X.base CX0 k f fd ps sp) (sh : HG.Shut X.A) (hr : Room k X.A) (hg : Gl X x) (ha : PA X (e :: es) t) (hdb : (x == ("__debug__" : Str)) = false := by decide)
    (he : starEach (e :: es) X.env = (false, eval e X.env) :: starEach es X.env := by rfl) (hpl : (backTo pos (starEach es X.env)).any (·.1) = false := by rfl) : PE X (.Call (.Name x p) (e :: es) [] pos) (tCall sp [] E0 t) :=
  HG.pe_callG G sh hr hg D.g D.F.kp D.b .nil pass0 ha hdb he hpl
/-- a written text or number of the module -/
theorem pe_gs {z : Str} (hg : Gl X x) (hm : ∃ t : Tok, X.mg x = some (.str z t)) (hdb : (x == ("__debug__" : Str)) = false := by decide) : PE X (.Name x pos) (tC (.str z)) := let ⟨t, h⟩ := hm; pe_glob hg h ⟨t, rfl⟩ (hd := hdb)
theorem pe_gi {i : Int} (hg : Gl X x) (hm : ∃ t : Tok, X.mg x = some (.int i t)) (hdb : (x == ("__debug__" : Str)) = false := by decide) : PE X (.Name x pos) (tC (.int i)) := let ⟨t, h⟩ := hm; pe_glob hg h ⟨t, rfl⟩ (hd := hdb)
theorem pe_gr {a : Addr} (hg : Gl X x) (hm : X.mg x = some (.ref a)) (hdb : (x == ("__debug__" : Str)) = false := by decide) : PE X (.Name x pos) (tC (.ref a)) := pe_glob hg hm rfl (hd := hdb)
end
/-! ### heaps -/
theorem same_upd {H : Hp} {p : Addr} {o : HO} (h : H p = none) : Same H (upd H p o) := fun b x e => by
  rw [upd_ne (ne_of_none e h)]
  exact e
theorem _root_.L2.Same.sqt {K : PySem.W.Frag} {H H' : Hp} {a : Addr} {xs : List V} (e : Same H H') (h : SqT K H a xs) : SqT K H' a xs := Evl.ex_t e h
theorem _root_.L2.Same.own {H H' : Hp} {D : Addr} {o : HO} (e : Same H H') (n : H D = none) : Same H (upd H' D o) := fun b x hb => by
  rw [upd_ne (ne_of_none hb n)]
  exact e _ _ hb
theorem sl {K : PySem.W.Frag} {H : Hp} {a : Addr} {xs : List V} (h : H a = some (.lst xs)) : SqL K H a xs := .inl (.inl h)
theorem stt {K : PySem.W.Frag} {H : Hp} {a : Addr} {xs : List V} (h : H a = some (.tup xs)) : SqT K H a xs := .inl (.inl h)
theorem ite1 {b : Bool} {A B : Prop} (e : b = true) (h : A) : if b = true then A else B := by rw [if_pos e]; exact h
theorem ite0 {b : Bool} {A B : Prop} (e : b = false) (h : B) : if b = true then A else B := by rw [if_neg (by rw [e]; decide)]; exact h
mutual
theorem _root_.L2.Same.dp {K : PySem.W.Frag} {H H' : Hp} (e : Same H H') : ∀ {v : V} {d : PyData}, Dp K H v d → Dp K H' v d
  | _, _, .non => .non
  | _, _, .bl b => .bl b
  | _, _, .int i => .int i
  | _, _, .str x => .str x
  | _, _, .lst h k => .lst (e.seq h) (L2.Same.dpAll e k)
  | _, _, .tup h k => .tup (L2.Same.sqt e h) (L2.Same.dpAll e k)
theorem _root_.L2.Same.dpAll {K : PySem.W.Frag} {H H' : Hp} (e : Same H H') : ∀ {vs : List V} {ds : List PyData}, DpAll K H vs ds → DpAll K H' vs ds
  | _, _, .nil => .nil
  | _, _, .cons h k => .cons (L2.Same.dp e h) (L2.Same.dpAll e k)
end
/-! ### a def that calls itself: by the depth -/
section
variable {P : Program} {w : World} {K : PySem.W.Frag} {mg : Str → Option Value} {base : Heap} {CX : CXT} {f : Addr} {fd : FuncData} {ps : List Str}
def spR (sp : Nat → Sp) : Nat → Sp
  | 0 => fun _ _ _ _ => False
  | n + 1 => sp n
theorem rec_fn {sp : Nat → Sp} {c : Nat} (step : ∀ n, FnOk P w K mg base CX (n + c) f fd ps (spR sp n) → FnOk P w K mg base CX (n + c + 1) f fd ps (sp n)) : ∀ n, FnOk P w K mg base CX (n + c + 1) f fd ps (sp n)
  | 0 => step 0 ⟨fun _ _ _ _ h => h.elim, fun _ _ _ _ _ _ _ _ _ _ _ _ _ h => h.elim⟩
  | n + 1 => step (n + 1) (by
    have h := rec_fn step n
    rwa [show n + c + 1 = n + 1 + c by omega] at h)
end
end HB
namespace T01
open PySem PySem.Spec PyProof.Rows L2 HX HB HG
def topS (i : Nat) : Stmt := PySem.Challenge.pw_nestyard_k01_names_and_calcs.main.body.getD i (.Pass ⟨0, 0, 0, 0⟩)
abbrev s_isname : Stmt := topS 3
theorem sc_isname : FnScope ["thing", "sign"] ["thing"] (defScope s_isname) := ⟨rfl, rfl, rfl, by decide +kernel, rfl, by decide +kernel, by decide +kernel⟩

abbrev s_isnum : Stmt := topS 4
theorem sc_isnum : FnScope ["thing"] ["thing"] (defScope s_isnum) := ⟨rfl, rfl, rfl, by decide +kernel, rfl, by decide +kernel, by decide +kernel⟩

abbrev s_iscalc : Stmt := topS 5
theorem sc_iscalc : FnScope ["thing"] ["thing"] (defScope s_iscalc) := ⟨rfl, rfl, rfl, by decide +kernel, rfl, by decide +kernel, by decide +kernel⟩

abbrev s_worth : Stmt := topS 6
theorem sc_worth : FnScope ["calc", "words", "kind", "parts", "one", "other", "part"] ["calc", "words"] (defScope s_worth) := ⟨rfl, rfl, rfl, by decide +kernel, rfl, by decide +kernel, by decide +kernel⟩

abbrev s_begun : Stmt := topS 8
theorem sc_begun : FnScope ["_law_script", "_law_great", "_law_cell"] ["_law_script"] (defScope s_begun) := ⟨rfl, rfl, rfl, by decide +kernel, rfl, by decide +kernel, by decide +kernel⟩

abbrev s_next : Stmt := topS 9
theorem sc_next : FnScope ["_law_draw", "_law_size", "_law_number", "_law_turn", "_law_stock", "_law_made", "_law_prime"] ["_law_draw", "_law_size"] (defScope s_next) := ⟨rfl, rfl, rfl, by decide +kernel, rfl, by decide +kernel, by decide +kernel⟩

abbrev s_name : Stmt := topS 10
theorem sc_name : FnScope ["_law_draw", "_law_own", "_law_name_here", "_law_many", "_law_way", "_law_letters", "_law_k"] ["_law_draw"] (defScope s_name) := ⟨rfl, rfl, rfl, by decide +kernel, rfl, by decide +kernel, by decide +kernel⟩

abbrev s_names : Stmt := topS 11
theorem sc_names : FnScope ["_law_draw", "_law_many", "_law_found", "_law_k", "_law_name_here", "_law_one"] ["_law_draw", "_law_many"] (defScope s_names) := ⟨rfl, rfl, rfl, by decide +kernel, rfl, by decide +kernel, by decide +kernel⟩

abbrev s_lcalc : Stmt := topS 12
theorem sc_lcalc : FnScope ["_law_draw", "_law_play", "_law_deep", "_law_way", "_law_kind", "_law_one", "_law_number"] ["_law_draw", "_law_play", "_law_deep"] (defScope s_lcalc) := ⟨rfl, rfl, rfl, by decide +kernel, rfl, by decide +kernel, by decide +kernel⟩

abbrev s_lworth : Stmt := topS 13
theorem sc_lworth : FnScope ["_law_calc_here", "_law_words", "_law_one", "_law_other", "_law_part"] ["_law_calc_here", "_law_words"] (defScope s_lworth) := ⟨rfl, rfl, rfl, by decide +kernel, rfl, by decide +kernel, by decide +kernel⟩

abbrev s_odd : Stmt := topS 14
theorem sc_odd : FnScope ["_law_draw", "_law_calc_here", "_law_at", "_law_some"] ["_law_draw", "_law_calc_here"] (defScope s_odd) := ⟨rfl, rfl, rfl, by decide +kernel, rfl, by decide +kernel, by decide +kernel⟩

abbrev s_law : Stmt := topS 15
theorem sc_law : FnScope ["_law_script", "_law_draw", "_law_turn", "_law_play", "_law_calc_here", "_law_words", "_law_kept", "_law_name_here", "_law_at", "_law_sign", "_law_other", "_law_due"] ["_law_script"] (defScope s_law) := ⟨rfl, rfl, rfl, by decide +kernel, rfl, by decide +kernel, by decide +kernel⟩

structure Tp (K : PySem.W.Frag) (mg : Str → Option Value) where
  f_isname : Addr
  fd_isname : FuncData
  D_isname : Df K mg "is_name" "is_name" s_isname ["thing"] f_isname fd_isname
  f_isnum : Addr
  fd_isnum : FuncData
  D_isnum : Df K mg "is_number" "is_number" s_isnum ["thing"] f_isnum fd_isnum
  f_iscalc : Addr
  fd_iscalc : FuncData
  D_iscalc : Df K mg "is_calc" "is_calc" s_iscalc ["thing"] f_iscalc fd_iscalc
  f_worth : Addr
  fd_worth : FuncData
  D_worth : Df K mg "worth" "worth" s_worth ["calc", "words"] f_worth fd_worth
  f_begun : Addr
  fd_begun : FuncData
  D_begun : Df K mg "_law_begun" "_law_begun" s_begun ["_law_script"] f_begun fd_begun
  f_next : Addr
  fd_next : FuncData
  D_next : Df K mg "_law_next" "_law_next" s_next ["_law_draw", "_law_size"] f_next fd_next
  f_name : Addr
  fd_name : FuncData
  D_name : Df K mg "_law_name" "_law_name" s_name ["_law_draw"] f_name fd_name
  f_names : Addr
  fd_names : FuncData
  D_names : Df K mg "_law_names" "_law_names" s_names ["_law_draw", "_law_many"] f_names fd_names
  f_lcalc : Addr
  fd_lcalc : FuncData
  D_lcalc : Df K mg "_law_calc" "_law_calc" s_lcalc ["_law_draw", "_law_play", "_law_deep"] f_lcalc fd_lcalc
  f_lworth : Addr
  fd_lworth : FuncData
  D_lworth : Df K mg "_law_worth" "_law_worth" s_lworth ["_law_calc_here", "_law_words"] f_lworth fd_lworth
  f_odd : Addr
  fd_odd : FuncData
  D_odd : Df K mg "_law_odd" "_law_odd" s_odd ["_law_draw", "_law_calc_here"] f_odd fd_odd
  c_LETTERS : ∃ t : Tok, mg "LETTERS" = some (.str "abcdefghijklmnopqrstuvwxyz" t)
  a_KINDS : Addr
  c_KINDS : mg "KINDS" = some (.ref a_KINDS)
  t_KINDS : ∀ H : Hp, SqT K H a_KINDS [V.str "sum", V.str "minus", V.str "less"]
  all : mg "all" = none
  bool : mg "bool" = none
  dict : mg "dict" = none
  int : mg "int" = none
  isinstance : mg "isinstance" = none
  len : mg "len" = none
  list : mg "list" = none
  range : mg "range" = none
  repr : mg "repr" = none
  str : mg "str" = none
  tuple : mg "tuple" = none

/-! ### kinds of values -/
section
variable {K : PySem.W.Frag} {H : Hp}
theorem ty_tup {a : Addr} {xs : List V} (h : SqT K H a xs) : TyX K H (.ref a) (.type "tuple") := by
  rcases h with (h | ⟨o, h⟩) | ⟨o, its, n, h, c, _⟩
  · exact .base (.tup h)
  · exact .fTuple h
  · exact .kTuple h c
theorem ty_lst {a : Addr} {xs : List V} (h : SqL K H a xs) : TyX K H (.ref a) (.type "list") := by
  rcases h with (h | ⟨o, h⟩) | ⟨o, its, n, h, c, _⟩
  · exact .base (.lst h)
  · exact .base (.frz h)
  · exact .kList h c
end
/-! ### names and numbers -/
def isLow (c : Nat) : Bool := decide (97 ≤ c) && decide (c ≤ 122)
def isNameL (z : Str) : Bool := decide (1 ≤ z.length) && decide (z.length ≤ 6) && z.cps.toList.all isLow
theorem letters_mem (c : Nat) : decide (c ∈ ("abcdefghijklmnopqrstuvwxyz" : Str).cps.toList) = isLow c := by
  have e : ("abcdefghijklmnopqrstuvwxyz" : Str).cps.toList = (List.range 26).map (· + 97) := by decide +kernel
  rw [e]
  unfold isLow
  rw [← Bool.decide_and]
  congr 1
  simp only [List.mem_map, List.mem_range, eq_iff_iff]
  constructor
  · rintro ⟨j, hj, rfl⟩; omega
  · rintro ⟨h1, h2⟩; exact ⟨c - 97, by omega, by omega⟩
/-- kinds other than text -/
def kindsNS : List String := ["NoneType", "bool", "int", "tuple", "list", "dict"]
section
variable {P : Program} {w : World} {K : PySem.W.Frag} {mg : Str → Option Value} {base : Heap}
theorem kit_ns {k : String} (h : k ∈ kindsNS) : PySem.W.kitOne K (.type k) (.type "str") = some false := by
  have : kitB k "str" = some false := by
    revert k
    decide +kernel
  exact kit_ty this
def spName (K : PySem.W.Frag) : Sp := fun vs H Q _ => ∃ v, vs = [v] ∧ ((∃ z, v = .str z ∧ z.length ≤ 100000 ∧ ∀ H', Same H H' → Q (.bl (isNameL z)) H') ∨ (∃ k, k ∈ kindsNS ∧ TyX K H v (.type k) ∧ ∀ H', Same H H' → Q (.bl false) H'))
theorem ok_isname (T : Tp K mg) : FnOk P w K mg base CX0 1 T.f_isname T.fd_isname ["thing"] (spName K) := by
  refine T.D_isname.F.ok sc_isname (fun vs H Q E h => ?_) (fun cdv A outer s H vs Q E hr h => ?_)
  · obtain ⟨v, rfl, _⟩ := h
    rfl
  · obtain ⟨v, rfl, h⟩ := h
    refine ⟨_, (pss_cons (ps_if (PW.pt (pw_or (pt_not (pt_val (pe_callB call_isi (by rfl) T.isinstance (by decide +kernel) (pa_cons (pv 0) (pa_cons (pe_bltn (v := .ty "str") (by rfl) T.str (by decide +kernel) rfl) pa_nil))))) (pw_or1 (pt_not (pt_chain op_le op_le pe_int (pe_callB call_len_str (by rfl) T.len PySem.boot_len (pa_cons (pv 0) pa_nil)) pe_int)))))
  (pss_one (ps_ret pe_bl))
  pss_nil)
  (pss_one (ps_ret (pe_callB (cr_all rfl) (by rfl) T.all (by decide +kernel) (pa_cons (pe_lc (own := [("sign", 1)]) (g := gName 1) (by rfl) sc_isname.nd (pi_str (pv 0)) (blkOk_by (own := [("sign", 1)]) (N := ["thing", "sign"]) (sc := defScope s_isname) (by decide +kernel)) (fun _ _ _ _ _ => (pg_name (i := 1) sc_isname.nd rfl (.inl rfl))) (fun _ _ _ _ _ => pts_nil) (fun _ _ _ _ _ => (pe_cmpR op_in_sign (pv 1) (pe_gs (by rfl) T.c_LETTERS) rfl))) pa_nil))))), ?_⟩
    rcases h with ⟨z, rfl, hz, q⟩ | ⟨k, hk, ty, q⟩
    · refine ⟨_, rfl, _, _, _, _, true, rfl, .ty "str", .base (.str _), kit_ty (by decide +kernel), true, rfl, ?_⟩
      refine ⟨_, rfl, _, rfl, Evl.sz_of hz, _, _, rfl, rfl, _, rfl, ?_⟩
      have fin : ∀ b : Bool, (decide (1 ≤ z.length) && decide (z.length ≤ 6)) = b → b = false → ∀ H', Same H H' → Q (.bl false) H' := fun b e eb H' s' => by
        have h2 := q H' s'
        unfold isNameL at h2
        rw [e, eb] at h2
        exact h2
      have len1 : (decide ((1 : Int) ≤ (z.length : Nat))) = decide (1 ≤ z.length) := decide_eq_decide.mpr (by omega)
      have len6 : (decide (((z.length : Nat) : Int) ≤ 6)) = decide (z.length ≤ 6) := decide_eq_decide.mpr (by omega)
      by_cases h1 : 1 ≤ z.length
      · refine ite1 (by rw [len1]; exact decide_eq_true h1) ⟨_, _, rfl, rfl, ?_⟩
        by_cases h6 : z.length ≤ 6
        · refine ⟨true, by show V.bl _ = _; rw [len6, decide_eq_true h6], ?_⟩
          refine ⟨_, rfl, _, rfl, fun D nD => lc_it walk_str (fun i H2 => Same H H2 ∧ H2 D = some (.lst ((z.cps.toList.take i).map fun c => V.bl (isLow c)))) ⟨same_upd nD, upd_same⟩ (fun _ _ _ _ => trivial) ?_ ?_⟩
          · rintro i x H2 H3 hi ⟨sm, hD⟩ ⟨rfl, c, hc, rfl⟩
            refine ⟨rfl, _, rfl, c, _, rfl, rfl, _, hD, ?_, sm.own nD, ?_⟩
            · rw [List.length_map, List.length_take, Array.length_toList]
              exact small1000 (Nat.le_trans (Nat.min_le_left _ _) (Nat.le_trans (Nat.le_of_lt hi) (Nat.le_trans h6 (by decide))))
            · rw [upd_same, letters_mem, List.take_add_one, List.map_append, Array.getElem?_toList, hc]
              rfl
          · rintro H2 ⟨sm, hD⟩
            rw [show z.cps.size = z.cps.toList.length by simp, List.take_length] at hD
            have e : (z.cps.toList.map fun c => V.bl (isLow c)) = (z.cps.toList.map isLow).map V.bl := by rw [List.map_map]; rfl
            rw [e] at hD
            refine ⟨D, _, rfl, sl hD, ?_⟩
            have h2 := q H2 sm
            unfold isNameL at h2
            rw [decide_eq_true h1, decide_eq_true h6] at h2
            rw [List.all_map]
            exact h2
        · refine ⟨false, by show V.bl _ = _; rw [len6, decide_eq_false h6], ?_⟩
          exact fin _ rfl (by rw [decide_eq_false h6, Bool.and_false]) H (Same.refl H)
      · refine ite0 (by rw [len1]; exact decide_eq_false h1) ⟨false, rfl, ?_⟩
        exact fin _ rfl (by rw [decide_eq_false h1, Bool.false_and]) H (Same.refl H)
    · refine ⟨_, rfl, _, _, _, _, false, rfl, .ty "str", ty, kit_ns hk, false, rfl, ?_⟩
      exact q H (Same.refl H)
/-! ### is_number -/
def kindsNI : List String := ["NoneType", "str", "tuple", "list", "dict"]
theorem kit_ni {k : String} (h : k ∈ kindsNI) : PySem.W.kitOne K (.type k) (.type "int") = some false := by
  have : kitB k "int" = some false := by
    revert k
    decide +kernel
  exact kit_ty this
def spNum (K : PySem.W.Frag) : Sp := fun vs H Q _ => ∃ v, vs = [v] ∧ ((∃ i, v = .int i ∧ Q (.bl true) H) ∨ (∃ b, v = .bl b ∧ Q (.bl false) H) ∨ (∃ k, k ∈ kindsNI ∧ TyX K H v (.type k) ∧ Q (.bl false) H))
theorem ok_isnum (T : Tp K mg) : FnOk P w K mg base CX0 1 T.f_isnum T.fd_isnum ["thing"] (spNum K) := by
  refine T.D_isnum.F.ok sc_isnum (fun vs H Q E h => ?_) (fun cdv A outer s H vs Q E hr h => ?_)
  · obtain ⟨v, rfl, _⟩ := h
    rfl
  · obtain ⟨v, rfl, h⟩ := h
    refine ⟨_, (pss_one (ps_ret (pe_and (pe_callB call_isi (by rfl) T.isinstance (by decide +kernel) (pa_cons (pv 0) (pa_cons (pe_bltn (v := .ty "int") (by rfl) T.int (by decide +kernel) rfl) pa_nil))) (pe_one (pe_notT (pe_callB call_isi (by rfl) T.isinstance (by decide +kernel) (pa_cons (pv 0) (pa_cons (pe_bltn (v := .ty "bool") (by rfl) T.bool (by decide +kernel) rfl) pa_nil)))))))), ?_⟩
    rcases h with ⟨i, rfl, q⟩ | ⟨b, rfl, q⟩ | ⟨k, hk, ty, q⟩
    · refine ⟨_, rfl, _, _, _, _, true, rfl, .ty "int", .base (.int _), kit_ty (by decide +kernel), true, rfl, iteT ⟨_, rfl, _, _, _, _, false, rfl, .ty "bool", .base (.int _), kit_ty (by decide +kernel), false, rfl, q⟩⟩
    · refine ⟨_, rfl, _, _, _, _, true, rfl, .ty "int", .base (.bl _), kit_ty (by decide +kernel), true, rfl, iteT ⟨_, rfl, _, _, _, _, true, rfl, .ty "bool", .base (.bl _), kit_ty (by decide +kernel), true, rfl, q⟩⟩
    · exact ⟨_, rfl, _, _, _, _, false, rfl, .ty "int", ty, kit_ni hk, false, rfl, iteF q⟩
end
end T01
namespace T01
open PySem PySem.Spec PyProof.Rows L2 HX HB HG
/-! ### is_calc -/
def kindsNT : List String := ["NoneType", "bool", "list", "dict"]
theorem kit_nt {k : String} (h : k ∈ kindsNT ∨ k = "int" ∨ k = "str") {K : PySem.W.Frag} : PySem.W.kitOne K (.type k) (.type "tuple") = some false := by
  have : kitB k "tuple" = some false := by
    rcases h with h | rfl | rfl
    · revert k
      decide +kernel
    · decide +kernel
    · decide +kernel
  exact kit_ty this
/-- what is_calc tells of a value, by the depth -/
inductive CR (K : PySem.W.Frag) (H : Hp) : Nat → V → Bool → Prop
  | str {n : Nat} {z : Str} (h : z.length ≤ 1000) : CR K H n (.str z) (isNameL z)
  | int {n : Nat} (i : Int) : CR K H n (.int i) true
  | bl {n : Nat} (b : Bool) : CR K H n (.bl b) false
  | non {n : Nat} : CR K H n .non false
  | lst {n : Nat} {a : Addr} {xs : List V} (h : SqL K H a xs) : CR K H n (.ref a) false
  | dct {n : Nat} {a : Addr} {kvs : List (Key × V)} (h : H a = some (.dK kvs)) : CR K H n (.ref a) false
  | len {n : Nat} {a : Addr} {xs : List V} (h : SqT K H a xs) (hl : xs.length ≠ 3) : CR K H n (.ref a) false
  | num {n : Nat} {a : Addr} {i : Int} {y z : V} (h : SqT K H a [.int i, y, z]) : CR K H n (.ref a) false
  | kin {n : Nat} {a : Addr} {s : Str} {y z : V} (h : SqT K H a [.str s, y, z]) (hs : s ≠ "sum" ∧ s ≠ "minus" ∧ s ≠ "less") : CR K H n (.ref a) false
  | op {n : Nat} {a : Addr} {s : Str} {y z : V} {b c : Bool} (h : SqT K H a [.str s, y, z]) (hs : s = "sum" ∨ s = "minus" ∨ s = "less") (hy : CR K H n y b) (hz : b = true → CR K H n z c) : CR K H (n + 1) (.ref a) (b && c)
section
variable {K : PySem.W.Frag} {H H' : Hp}
theorem CR.same (e : Same H H') {n : Nat} {v : V} {b : Bool} (h : CR K H n v b) : CR K H' n v b := by
  induction h with
  | str h => exact .str h
  | int i => exact .int i
  | bl b => exact .bl b
  | non => exact .non
  | lst h => exact .lst (e.seq h)
  | dct h => exact .dct (e _ _ h)
  | len h hl => exact .len (e.sqt h) hl
  | num h => exact .num (e.sqt h)
  | kin h hs => exact .kin (e.sqt h) hs
  | op h hs hy hz ih1 ih2 => exact .op (e.sqt h) hs ih1 ih2
def spCalc (K : PySem.W.Frag) (n : Nat) : Sp := fun vs H Q _ => ∃ v b, vs = [v] ∧ CR K H n v b ∧ ∀ H', Same H H' → Q (.bl b) H'
theorem kinds_in (s : Str) : inV (.str s) [.str "sum", .str "minus", .str "less"] = decide (s = "sum" ∨ s = "minus" ∨ s = "less") := by
  show (eqV (.str "sum") (.str s) || (eqV (.str "minus") (.str s) || (eqV (.str "less") (.str s) || false))) = _
  simp only [eqV, Bool.or_false, Bool.decide_or]
  have e : ∀ z : Str, (z == s) = decide (s = z) := fun z => by
    by_cases h : s = z
    · subst h; simp
    · rw [decide_eq_false h]; exact beq_eq_false_iff_ne.mpr (Ne.symm h)
  rw [e, e, e]
end
section
variable {P : Program} {w : World} {K : PySem.W.Frag} {mg : Str → Option Value} {base : Heap}
theorem ok_iscalc (T : Tp K mg) : ∀ n, FnOk P w K mg base CX0 (n + 1 + 1) T.f_iscalc T.fd_iscalc ["thing"] (spCalc K n) := rec_fn fun n ih => by
  refine T.D_iscalc.F.ok sc_iscalc (fun vs H Q E h => ?_) (fun cdv A outer s H vs Q E hr h => ?_)
  · obtain ⟨v, b, rfl, _⟩ := h
    rfl
  · obtain ⟨v, b, rfl, hc, q⟩ := h
    refine ⟨_, (pss_cons (ps_if (pt_not (pt_val (pe_callB call_isi (by rfl) T.isinstance (by decide +kernel) (pa_cons (pv 0) (pa_cons (pe_bltn (v := .ty "tuple") (by rfl) T.tuple (by decide +kernel) rfl) pa_nil)))))
  (pss_one (ps_ret (pe_or (pcall T.D_isnum (ok_isnum T) (hr.mono (by omega)) (by rfl) (pa_cons (pv 0) pa_nil)) (pe_one (pcall T.D_isname (ok_isname T) (hr.mono (by omega)) (by rfl) (pa_cons (pv 0) pa_nil))))))
  pss_nil)
  (pss_cons (ps_if (PW.pt (pw_or (pt_cmpR op_ne (pe_callB call_len_seq (by rfl) T.len PySem.boot_len (pa_cons (pv 0) pa_nil)) pe_int (nomark _)) (pw_or (pt_not (pt_val (pe_callB call_isi (by rfl) T.isinstance (by decide +kernel) (pa_cons (pe_ix ix_tup (pv 0) pe_int (fun _ _ => rfl)) (pa_cons (pe_bltn (v := .ty "str") (by rfl) T.str (by decide +kernel) rfl) pa_nil))))) (pw_or1 (pt_cmpR op_notIn_seq (pe_ix ix_tup (pv 0) pe_int (fun _ _ => rfl)) (pe_gr (by rfl) T.c_KINDS) (by rfl))))))
  (pss_one (ps_ret pe_bl))
  pss_nil)
  (pss_one (ps_ret (pe_and (pcall T.D_iscalc ih (hr.mono (by omega)) (by rfl) (pa_cons (pe_ix ix_tup (pv 0) pe_int (fun _ _ => rfl)) pa_nil)) (pe_one (pcall T.D_iscalc ih (hr.mono (by omega)) (by rfl) (pa_cons (pe_ix ix_tup (pv 0) pe_int (fun _ _ => rfl)) pa_nil)))))))), ?_⟩
    -- what is no tuple
    have plain : ∀ (k : String) (b : Bool), (k ∈ kindsNT ∨ k = "int" ∨ k = "str") → TyX K H v (.type k) → (∀ σ D, spNum K [v] H (fun x H1 => ∃ c, x = .bl c ∧ if c = true then D (.bl true) H1 else spName K [v] H1 D σ) σ) → True := fun _ _ _ _ _ => trivial
    cases hc with
    | str h =>
      refine ⟨_, rfl, _, _, _, _, false, rfl, .ty "tuple", .base (.str _), kit_nt (.inr (.inr rfl)), false, rfl, ?_⟩
      refine ⟨_, rfl, _, rfl, .inr (.inr ⟨"str", by decide, .base (.str _), _, rfl, iteF ?_⟩)⟩
      exact ⟨_, rfl, _, rfl, .inl ⟨_, rfl, Nat.le_trans h (by decide), q⟩⟩
    | int i =>
      refine ⟨_, rfl, _, _, _, _, false, rfl, .ty "tuple", .base (.int _), kit_nt (.inr (.inl rfl)), false, rfl, ?_⟩
      exact ⟨_, rfl, _, rfl, .inl ⟨i, rfl, _, rfl, iteT (q H (Same.refl H))⟩⟩
    | bl c =>
      refine ⟨_, rfl, _, _, _, _, false, rfl, .ty "tuple", .base (.bl _), kit_nt (.inl (by decide)), false, rfl, ?_⟩
      refine ⟨_, rfl, _, rfl, .inr (.inl ⟨c, rfl, _, rfl, iteF ?_⟩)⟩
      exact ⟨_, rfl, _, rfl, .inr ⟨"bool", by decide, .base (.bl _), q⟩⟩
    | non =>
      refine ⟨_, rfl, _, _, _, _, false, rfl, .ty "tuple", .base .non, kit_nt (.inl (by decide)), false, rfl, ?_⟩
      refine ⟨_, rfl, _, rfl, .inr (.inr ⟨"NoneType", by decide, .base .non, _, rfl, iteF ?_⟩)⟩
      exact ⟨_, rfl, _, rfl, .inr ⟨"NoneType", by decide, .base .non, q⟩⟩
    | lst h =>
      refine ⟨_, rfl, _, _, _, _, false, rfl, .ty "tuple", ty_lst h, kit_nt (.inl (by decide)), false, rfl, ?_⟩
      refine ⟨_, rfl, _, rfl, .inr (.inr ⟨"list", by decide, ty_lst h, _, rfl, iteF ?_⟩)⟩
      exact ⟨_, rfl, _, rfl, .inr ⟨"list", by decide, ty_lst h, q⟩⟩
    | dct h =>
      refine ⟨_, rfl, _, _, _, _, false, rfl, .ty "tuple", .base (.dK h), kit_nt (.inl (by decide)), false, rfl, ?_⟩
      refine ⟨_, rfl, _, rfl, .inr (.inr ⟨"dict", by decide, .base (.dK h), _, rfl, iteF ?_⟩)⟩
      exact ⟨_, rfl, _, rfl, .inr ⟨"dict", by decide, .base (.dK h), q⟩⟩
    | len h hl =>
      refine ⟨_, rfl, _, _, _, _, true, rfl, .ty "tuple", ty_tup h, kit_ty (by decide +kernel), true, rfl, ?_⟩
      refine ⟨_, rfl, _, _, rfl, .inr h, rfl, _, rfl, ite1 ?_ (q H (Same.refl H))⟩
      simp only [Bool.not_eq_true', decide_eq_false_iff_not, V.int.injEq]
      omega
    | num h =>
      refine ⟨_, rfl, _, _, _, _, true, rfl, .ty "tuple", ty_tup h, kit_ty (by decide +kernel), true, rfl, ?_⟩
      refine ⟨_, rfl, _, _, rfl, .inr h, rfl, _, rfl, ?_⟩
      refine ⟨_, rfl, _, _, _, _, rfl, rfl, h, atI_nat (j := 0) rfl, _, _, _, _, false, rfl, .ty "str", .base (.int _), kit_ty (by decide +kernel), false, rfl, ?_⟩
      exact q H (Same.refl H)
    | kin h hs =>
      refine ⟨_, rfl, _, _, _, _, true, rfl, .ty "tuple", ty_tup h, kit_ty (by decide +kernel), true, rfl, ?_⟩
      refine ⟨_, rfl, _, _, rfl, .inr h, rfl, _, rfl, ?_⟩
      refine ⟨_, rfl, _, _, _, _, rfl, rfl, h, atI_nat (j := 0) rfl, _, _, _, _, true, rfl, .ty "str", .base (.str _), kit_ty (by decide +kernel), true, rfl, ?_⟩
      refine ⟨_, rfl, _, _, _, _, rfl, rfl, h, atI_nat (j := 0) rfl, _, _, rfl, .inr (T.t_KINDS H), rfl, rfl, _, rfl, ?_⟩
      refine ite1 ?_ (q H (Same.refl H))
      show (!inV _ _) = true
      rw [kinds_in, decide_eq_false (by rintro (z | z | z) <;> simp_all)]
      rfl
    | op h hs hy hz =>
      rename_i n0 a s y z b c
      refine ⟨_, rfl, _, _, _, _, true, rfl, .ty "tuple", ty_tup h, kit_ty (by decide +kernel), true, rfl, ?_⟩
      refine ⟨_, rfl, _, _, rfl, .inr h, rfl, _, rfl, ?_⟩
      refine ⟨_, rfl, _, _, _, _, rfl, rfl, h, atI_nat (j := 0) rfl, _, _, _, _, true, rfl, .ty "str", .base (.str _), kit_ty (by decide +kernel), true, rfl, ?_⟩
      refine ⟨_, rfl, _, _, _, _, rfl, rfl, h, atI_nat (j := 0) rfl, _, _, rfl, .inr (T.t_KINDS H), rfl, rfl, _, rfl, ?_⟩
      refine ite0 ?_ ?_
      · show (!inV _ _) = false
        rw [kinds_in, decide_eq_true hs]
        rfl
      · refine ⟨_, rfl, _, _, _, _, rfl, rfl, h, atI_nat (j := 1) rfl, y, b, rfl, hy, fun H1 s1 => ⟨b, rfl, ?_⟩⟩
        cases b with
        | false => exact iteF (q H1 s1)
        | true => exact iteT ⟨_, rfl, _, _, _, _, rfl, rfl, s1.sqt h, atI_nat (j := 2) rfl, z, c, rfl, (hz rfl).same s1, fun H2 s2 => q H2 (s1.trans s2)⟩
/-! ### worth -/
inductive Kd where
  | sum | minus | less
def Kd.nm : Kd → Str
  | .sum => "sum"
  | .minus => "minus"
  | .less => "less"
theorem Kd.ok (k : Kd) : k.nm = "sum" ∨ k.nm = "minus" ∨ k.nm = "less" := by cases k <;> simp [Kd.nm]
inductive Calc where
  | num (i : Int)
  | word (w : Str)
  | op (k : Kd) (a b : Calc)
def Kd.run : Kd → Int → Int → Int
  | .sum, a, b => a + b
  | .minus, a, b => a - b
  | .less, a, b => if a < b then 1 else 0
/-- the dict of words, as it stands -/
def dw (ws : List (Str × Int)) : List (Key × V) := ws.map fun p => (Sum.inr p.1, .int p.2)
def look (ws : List (Str × Int)) (w : Str) : Option Int := (ws.find? fun p => decide (p.1 = w)).map (·.2)
theorem look_val (ws : List (Str × Int)) (w : Str) : valV (dw ws) (Sum.inr w : Key) = (look ws w).map V.int := by
  unfold valV dw look
  rw [List.find?_map]
  have e : ((fun kv : Key × V => decide (kv.1 = Sum.inr w)) ∘ fun p : Str × Int => (Sum.inr p.1, V.int p.2)) = fun p : Str × Int => decide (p.1 = w) := by
    funext p
    show decide ((Sum.inr p.1 : Key) = Sum.inr w) = _
    rw [key_rr]
  rw [e]
  cases ws.find? fun p => decide (p.1 = w) <;> rfl
def Calc.worth (ws : List (Str × Int)) : Calc → Int
  | .num i => i
  | .word w => (look ws w).getD 0
  | .op k a b => k.run (a.worth ws) (b.worth ws)
/-- a calc stands there -/
inductive CA (K : PySem.W.Frag) (H : Hp) : Nat → V → Calc → Prop
  | num {n : Nat} (i : Int) : CA K H n (.int i) (.num i)
  | word {n : Nat} (w : Str) : CA K H n (.str w) (.word w)
  | op {n : Nat} {a : Addr} {k : Kd} {y z : V} {c d : Calc} (h : SqT K H a [.str k.nm, y, z]) (hy : CA K H n y c) (hz : CA K H n z d) : CA K H (n + 1) (.ref a) (.op k c d)
theorem CA.same {H H' : Hp} (e : Same H H') {n : Nat} {v : V} {c : Calc} (h : CA K H n v c) : CA K H' n v c := by
  induction h with
  | num i => exact .num i
  | word w => exact .word w
  | op h hy hz ih1 ih2 => exact .op (e.sqt h) ih1 ih2
def spWorth (K : PySem.W.Frag) (n : Nat) : Sp := fun vs H Q _ => ∃ v c d ws, vs = [v, .ref d] ∧ CA K H n v c ∧ H d = some (.dK (dw ws)) ∧ ∀ H', Same H H' → Q (.int (c.worth ws)) H'
theorem ok_worth (T : Tp K mg) : ∀ n, FnOk P w K mg base CX0 (n + 1) T.f_worth T.fd_worth ["calc", "words"] (spWorth K n) := rec_fn (c := 0) (sp := spWorth K) fun n ih => by
  refine T.D_worth.F.ok sc_worth (fun vs H Q E h => ?_) (fun cdv A outer s H vs Q E hr h => ?_)
  · obtain ⟨v, c, d, ws, rfl, _⟩ := h
    rfl
  · obtain ⟨v, c, d, ws, rfl, hc, hd, q⟩ := h
    have hu := hu_of hr
    refine ⟨_, (pss_cons (ps_if (pt_val (pe_callB call_isi (by rfl) T.isinstance (by decide +kernel) (pa_cons (pv 0) (pa_cons (pe_bltn (v := .ty "str") (by rfl) T.str (by decide +kernel) rfl) pa_nil))))
  (pss_one (ps_ret (pe_dget2 hu (pv 1) (pv 0) pe_int ⟨by rfl, by rfl, by rfl, by rfl⟩)))
  pss_nil)
  (pss_cons (ps_if (pt_not (pt_val (pe_callB call_isi (by rfl) T.isinstance (by decide +kernel) (pa_cons (pv 0) (pa_cons (pe_bltn (v := .ty "tuple") (by rfl) T.tuple (by decide +kernel) rfl) pa_nil)))))
  (pss_one (ps_ret (pv 0)))
  pss_nil)
  (pss_cons (ps_asg (pv 0) (pg_star (n := 2) (i := 1) rfl (pgs_cons (pg_name (i := 2) sc_worth.nd rfl (.inl rfl)) (pgs_star (pg_name (i := 3) sc_worth.nd rfl (.inl rfl)) pgs_nil))))
  (pss_cons (ps_asg (pe_lc (own := [("part", 6)]) (g := gName 6) (by rfl) sc_worth.nd (pi_list (pv 3)) (blkOk_by (own := [("part", 6)]) (N := ["calc", "words", "kind", "parts", "one", "other", "part"]) (sc := defScope s_worth) (by decide +kernel)) (fun _ _ _ _ _ => (pg_name (i := 6) sc_worth.nd rfl (.inl rfl))) (fun _ _ _ _ _ => pts_nil) (fun _ _ _ _ _ => (pcall T.D_worth ih (hr.mono (by omega)) (by rfl) (pa_cons (pv 6) (pa_cons (pv 1) pa_nil))))) (pg_unl rfl (pgs_cons (pg_name (i := 4) sc_worth.nd rfl (.inl rfl)) (pgs_cons (pg_name (i := 5) sc_worth.nd rfl (.inl rfl)) pgs_nil))))
  (pss_cons (ps_if (pt_cmpR op_eq (pv 2) pe_str (nomark _))
  (pss_one (ps_ret (pe_op op_add (pv 4) (pv 5))))
  pss_nil)
  (pss_one (ps_ret (pe_ifExp (pt_cmpR op_eq (pv 2) pe_str (nomark _)) (pe_op op_sub (pv 4) (pv 5)) (pe_callTy call_int1 (by rfl) T.int (by decide +kernel) (pa_cons (pe_cmpR op_lt (pv 4) (pv 5) (nomark _)) pa_nil)))))))))), ?_⟩
    cases hc with
    | num i =>
      refine ⟨_, rfl, _, _, _, _, false, rfl, .ty "str", .base (.int _), kit_ty (by decide +kernel), false, rfl, ?_⟩
      refine ⟨_, rfl, _, _, _, _, false, rfl, .ty "tuple", .base (.int _), kit_ty (by decide +kernel), false, rfl, ?_⟩
      exact ⟨_, rfl, q H (Same.refl H)⟩
    | word x =>
      refine ⟨_, rfl, _, _, _, _, true, rfl, .ty "str", .base (.str _), kit_ty (by decide +kernel), true, rfl, ?_⟩
      refine ⟨_, rfl, d, rfl, .inl ⟨_, .inl hd⟩, _, rfl, _, DGet.k (k := Sum.inr x) hd, ?_⟩
      rw [look_val]
      have := q H (Same.refl H)
      unfold Calc.worth at this
      cases e : look ws x with
      | none => rw [e] at this; exact this
      | some i => rw [e] at this; exact this
    | op h hy hz =>
      rename_i n0 a k y z c1 c2
      refine ⟨_, rfl, _, _, _, _, false, rfl, .ty "str", ty_tup h, kit_ty (by decide +kernel), false, rfl, ?_⟩
      refine ⟨_, rfl, _, _, _, _, true, rfl, .ty "tuple", ty_tup h, kit_ty (by decide +kernel), true, rfl, ?_⟩
      refine ⟨_, rfl, a, _, rfl, h, by show 2 ≤ 3 + 1; decide, by show 3 ≤ 16384; decide, fun p np => ?_⟩
      refine ⟨_, _, rfl, _, _, rfl, rfl, ?_⟩
      have s1 : Same H (upd H p (.lst [y, z])) := same_upd np
      have hp : (upd H p (.lst [y, z])) p = some (.lst [y, z]) := upd_same
      show tSeq _ _ _ _ (upd H p (.lst [y, z]))
      generalize upd H p (.lst [y, z]) = H1 at s1 hp ⊢
      refine ⟨_, rfl, p, rfl, ⟨_, sl hp⟩, fun D nD => lc_it walk_list (fun i H2 => Same H1 H2 ∧ H2 D = some (.lst (([c1, c2].map fun c => V.int (c.worth ws)).take i))) ⟨same_upd nD, upd_same⟩ (fun i H2 _ g => sl (g.1 _ _ hp)) ?_ ?_⟩
      · rintro i x H2 H3 hi ⟨sm, hD⟩ ⟨rfl, hx⟩
        have hi2 : i < 2 := hi
        rcases (by omega : i = 0 ∨ i = 1) with rfl | rfl
        · cases hx
          exact ⟨rfl, _, rfl, _, rfl, y, c1, d, ws, rfl, hy.same (s1.trans sm), (s1.trans sm) _ _ hd, fun H4 s4 => ⟨_, s4 _ _ hD, by show 0 < sizeLine; decide, (sm.trans s4).own nD, upd_same⟩⟩
        · cases hx
          exact ⟨rfl, _, rfl, _, rfl, z, c2, d, ws, rfl, hz.same (s1.trans sm), (s1.trans sm) _ _ hd, fun H4 s4 => ⟨_, s4 _ _ hD, by show 1 < sizeLine; decide, (sm.trans s4).own nD, upd_same⟩⟩
      · rintro H2 ⟨sm, hD⟩
        have hD' : H2 D = some (.lst [.int (c1.worth ws), .int (c2.worth ws)]) := hD
        refine ⟨D, _, rfl, sl hD', rfl, _, _, rfl, _, _, rfl, rfl, ?_⟩
        have fin := q H2 (s1.trans sm)
        cases k with
        | sum => exact ⟨_, rfl, rfl, _, rfl, iteT ⟨_, rfl, _, rfl, _, _, rfl, rfl, fin⟩⟩
        | minus => exact ⟨_, rfl, rfl, _, rfl, ⟨_, rfl, rfl, _, rfl, iteT ⟨_, rfl, _, rfl, _, _, rfl, rfl, fin⟩⟩⟩
        | less =>
          refine ⟨_, rfl, rfl, _, rfl, ⟨_, rfl, rfl, _, rfl, ⟨_, rfl, _, rfl, _, _, rfl, rfl, .inr ⟨_, rfl, ?_⟩⟩⟩⟩
          simp only [decide_eq_true_eq]
          exact fin
end
end T01
namespace T01
open PySem PySem.Spec PyProof.Rows L2 HX HB HG
/-! ### what is drawn from -/
abbrev drL (g c : Addr) (r t : Int) : List (Key × V) := [(Sum.inr "great", .ref g), (Sum.inr "rest", .int r), (Sum.inr "cells", .ref c), (Sum.inr "turn", .int t)]
abbrev drO (g c : Addr) (r t : Int) : HO := .dK (drL g c r t)
structure Dr (H : Hp) (d g c : Addr) : Prop where
  ex : ∃ (gs cs : List Int) (r t : Int), H d = some (drO g c r t) ∧ H g = some (.lst (gs.map V.int)) ∧ H c = some (.lst (cs.map V.int)) ∧ cs ≠ [] ∧ gs.length ≤ 1000 ∧ cs.length ≤ 1000 ∧ g ≠ c
/-- all but these two stand -/
def Up (d g : Addr) (H H' : Hp) : Prop := ∀ b o, H b = some o → b ≠ d → b ≠ g → H' b = some o
section
variable {d g c : Addr} {H H' H'' : Hp} {K : PySem.W.Frag}
theorem Up.refl (H : Hp) : Up d g H H := fun _ _ h _ _ => h
theorem Up.trans (a : Up d g H H') (b : Up d g H' H'') : Up d g H H'' := fun x o h h1 h2 => b x o (a x o h h1 h2) h1 h2
theorem Up.of (s : Same H H') : Up d g H H' := fun b o h _ _ => s b o h
theorem Up.set (u : Up d g H H') {b : Addr} {o : HO} (hb : b = d ∨ b = g) : Up d g H (upd H' b o) := fun x y h h1 h2 => by
  rw [upd_ne (by rintro rfl; exact hb.elim h1 h2)]
  exact u x y h h1 h2
theorem Dr.same (D : Dr H d g c) (s : Same H H') : Dr H' d g c := by
  obtain ⟨gs, cs, r, t, h1, h2, h3, h4⟩ := D.ex
  exact ⟨gs, cs, r, t, s _ _ h1, s _ _ h2, s _ _ h3, h4⟩
/-- an object apart is written -/
theorem Dr.set (D : Dr H d g c) {b : Addr} {o : HO} (hd : b ≠ d) (hg : b ≠ g) (hc : b ≠ c) : Dr (upd H b o) d g c := by
  obtain ⟨gs, cs, r, t, h1, h2, h3, h4⟩ := D.ex
  exact ⟨gs, cs, r, t, by rw [upd_ne hd.symm]; exact h1, by rw [upd_ne hg.symm]; exact h2, by rw [upd_ne hc.symm]; exact h3, h4⟩
theorem Dr.apart (D : Dr H d g c) {b : Addr} (n : H b = none) : b ≠ d ∧ b ≠ g ∧ b ≠ c := by
  obtain ⟨gs, cs, r, t, h1, h2, h3, h4⟩ := D.ex
  exact ⟨(ne_of_none h1 n).symm, (ne_of_none h2 n).symm, (ne_of_none h3 n).symm⟩
/-- .. that was none ahead -/
theorem Up.own (u : Up d g H H') {b : Addr} {o : HO} (n : H b = none) : Up d g H (upd H' b o) := fun x y h h1 h2 => by
  rw [upd_ne (ne_of_none h n)]
  exact u x y h h1 h2
/-- tuples stand -/
theorem Up.sqt (u : Up d g H H') (D : Dr H d g c) {a : Addr} {xs : List V} (h : SqT K H a xs) : SqT K H' a xs := by
  obtain ⟨gs, cs, r, t, h1, h2, _⟩ := D.ex
  rcases h with (h | ⟨o, h⟩) | h
  · exact .inl (.inl (u _ _ h (ne_of h h1 (by intro z; cases z)) (ne_of h h2 (by intro z; cases z))))
  · exact .inl (.inr ⟨o, u _ _ h (ne_of h h1 (by intro z; cases z)) (ne_of h h2 (by intro z; cases z))⟩)
  · exact .inr h
theorem Up.ca (u : Up d g H H') (D : Dr H d g c) {n : Nat} {v : V} {k : Calc} (h : CA K H n v k) : CA K H' n v k := by
  induction h with
  | num i => exact .num i
  | word w => exact .word w
  | op h hy hz ih1 ih2 => exact .op (u.sqt D h) ih1 ih2
end
theorem seq0 {α : Type} {x : α} (xs : List α) : seqIndex? 0 (x :: xs).length = some 0 := by
  unfold seqIndex?
  simp
theorem put_rest (g c : Addr) (r t v : Int) : putK (drL g c r t) (Sum.inr "rest") (.int v) = drL g c v t := rfl
theorem put_turn (g c : Addr) (r t v : Int) : putK (drL g c r t) (Sum.inr "turn") (.int v) = drL g c r v := rfl
theorem val_great (g c : Addr) (r t : Int) : valV (drL g c r t) (Sum.inr "great") = some (.ref g) := rfl
theorem val_rest (g c : Addr) (r t : Int) : valV (drL g c r t) (Sum.inr "rest") = some (.int r) := rfl
theorem val_cells (g c : Addr) (r t : Int) : valV (drL g c r t) (Sum.inr "cells") = some (.ref c) := rfl
theorem val_turn (g c : Addr) (r t : Int) : valV (drL g c r t) (Sum.inr "turn") = some (.int t) := rfl
theorem dr_lt (g c : Addr) (r t : Int) : (drL g c r t).length < sizeLine := by show 4 < sizeLine; decide
theorem dp_ints {K : PySem.W.Frag} {H : Hp} : ∀ ns : List Int, DpAll K H (ns.map V.int) (ns.map PyData.int)
  | [] => .nil
  | n :: ns => .cons (.int n) (dp_ints ns)
theorem ints_lay : ∀ ns : List Int, PyData.canLayAll0 (ns.map PyData.int) = true
  | [] => rfl
  | n :: ns => by simp only [List.map_cons, PyData.canLayAll0, PyData.canLay0, ints_lay ns, Bool.and_self]
theorem ints_depth : ∀ ns : List Int, PyData.depthAll (ns.map PyData.int) = 0
  | [] => rfl
  | n :: ns => by simp only [List.map_cons, PyData.depthAll, PyData.depth, ints_depth ns, Nat.max_self]
theorem ints_shaped (ns : List Int) : SeqAt.shaped (.list (ns.map PyData.int)) = true := by
  show (PyData.canLay0 (.list (ns.map PyData.int)) && decide (PyData.depth (.list (ns.map PyData.int)) ≤ 64)) = true
  simp only [PyData.canLay0, PyData.depth, ints_lay ns, ints_depth ns]
  rfl
section
variable {P : Program} {w : World} {K : PySem.W.Frag} {mg : Str → Option Value} {base : Heap}
def spNext : Sp := fun vs H Q _ => ∃ (d g c : Addr) (n : Int), vs = [.ref d, .int n] ∧ Dr H d g c ∧ 0 < n ∧ n ≤ 10 ^ 13 ∧ ∀ r H', 0 ≤ r → r < n → Dr H' d g c → Up d g H H' → Q (.int r) H'
theorem ok_next (T : Tp K mg) : FnOk P w K mg base CX0 1 T.f_next T.fd_next ["_law_draw", "_law_size"] spNext := by
  refine T.D_next.F.ok sc_next (fun vs H Q E h => ?_) (fun cdv A outer s H vs Q E hr h => ?_)
  · obtain ⟨d, g, c, n, rfl, _⟩ := h
    rfl
  · obtain ⟨d, g, c, n, rfl, D, n0, n1, q⟩ := h
    have hu := hu_of hr
    refine ⟨_, (Evl.pss_cut (ps_if (PW.pt (pw_and (pt_cmpR op_lt (pe_dget hu (pv 0) pe_str (fun _ _ => rfl)) pe_int (nomark _)) (pw_and1 (pt_cmpR (op_neD hr.units) (pe_dget hu (pv 0) pe_str (fun _ _ => rfl)) (pe_lst pa_nil) (nomark _)))))
  (pss_one (ps_dput hu (pv 0) pe_str (pe_bm PySem.F.plainAttrs_list PySem.F.slot_list_pop PySem.F.type_list_pop mt_popAt (pe_dget hu (pv 0) pe_str (fun _ _ => rfl)) (pa_cons pe_int pa_nil)) rfl))
  pss_nil)
  (pss_cons (ps_if (pt_cmpR op_gt (pe_dget hu (pv 0) pe_str (fun _ _ => rfl)) pe_int (nomark _))
  (pss_cons (ps_set (i := 2) sc_next.nd rfl (.inl rfl) (pe_op op_modN (pe_dget hu (pv 0) pe_str (fun _ _ => rfl)) (pv 1)))
  (pss_cons (ps_dput hu (pv 0) pe_str (pe_op op_fdivW (pe_dget hu (pv 0) pe_str (fun _ _ => rfl)) (pv 1)) rfl)
  (pss_one (ps_ret (pv 2)))))
  pss_nil)
  (pss_cons (ps_par (i := 3) (j := 4) rfl sc_next.nd rfl rfl (by decide) rfl rfl (pa_cons (pe_dget hu (pv 0) pe_str (fun _ _ => rfl)) (pa_cons (pe_dget hu (pv 0) pe_str (fun _ _ => rfl)) pa_nil)) (by rfl))
  (pss_cons (ps_dput hu (pv 0) pe_str (pe_op op_add (pv 3) pe_int) rfl)
  (pss_cons (ps_set (i := 5) sc_next.nd rfl (.inl rfl) (pe_op op_mod (pe_op op_mul (pe_op op_add (pe_op op_add (pe_ix ix_list (pv 4) (pe_op op_modN (pv 3) (pe_callB call_len_seq (by rfl) T.len PySem.boot_len (pa_cons (pv 4) pa_nil))) (fun _ _ => rfl)) (pe_op op_mul pe_int (pv 3))) pe_int) pe_int) pe_int))
  (pss_cons (ps_set (i := 6) sc_next.nd rfl (.inl rfl) (pe_ix ix_list (pe_lst (pa_cons pe_int (pa_cons pe_int (pa_cons pe_int (pa_cons pe_int (pa_cons pe_int pa_nil)))))) (pe_op op_mod (pv 3) pe_int) (fun _ _ => rfl)))
  (pss_one (ps_ret (pe_op op_modN (pe_op op_fdiv (pe_op op_modN (pe_op op_mul (pv 5) (pe_op op_add (pe_op op_add (pv 5) (pe_op op_mul pe_int (pv 3))) pe_int)) (pv 6)) pe_int) (pv 1)))))))))), ?_⟩
    have hdiv : CDivW 0 n := wide_div n0 (b := 50) (by omega) (by decide) (by decide)
    refine ⟨fun σ H' => (∃ y2 y3 y4 y5 y6, σ = [some (.ref d), some (.int n), y2, y3, y4, y5, y6]) ∧ Dr H' d g c ∧ Up d g H H', ?_, ?_⟩
    · obtain ⟨gs, cs, r, t, h1, h2, h3, h4, h5, h6, h7⟩ := D.ex
      have gd : g ≠ d := ne_of h2 h1 (by intro z; cases z)
      have cd : c ≠ d := ne_of h3 h1 (by intro z; cases z)
      have stay : ∃ y2 y3 y4 y5 y6, start ["_law_draw", "_law_size", "_law_number", "_law_turn", "_law_stock", "_law_made", "_law_prime"] [.ref d, .int n] = [some (.ref d), some (.int n), y2, y3, y4, y5, y6] := ⟨_, _, _, _, _, rfl⟩
      refine ⟨_, rfl, d, _, rfl, DGet.k (k := Sum.inr "rest") h1, _, _, rfl, rfl, _, rfl, ite2 (fun _ => ?_) (fun _ => ⟨stay, D, Up.refl H⟩)⟩
      refine ⟨_, rfl, d, _, rfl, DGet.k (k := Sum.inr "great") h1, (by decide), fun e ne => ?_⟩
      have se : Same H (upd H e (.lst [])) := same_upd ne
      have hee : (upd H e (.lst [])) e = some (.lst []) := upd_same
      generalize upd H e (.lst []) = H1 at se hee ⊢
      refine ⟨.list (gs.map .int), .list [], .lst (sl (se _ _ h2)) (dp_ints gs), .lst (sl hee) .nil, ints_shaped gs, rfl, _, rfl, ?_⟩
      cases gs with
      | nil => exact ⟨stay, D.same se, Up.of se⟩
      | cons x gs =>
        refine ite1 rfl ?_
        refine ⟨_, rfl, d, _, rfl, DGet.k (k := Sum.inr "great") (se _ _ h1), ?_⟩
        refine ⟨.inl ⟨rfl, _, sl (se _ _ h2)⟩, g, _, 0, 0, _, rfl, rfl, se _ _ h2, by decide, by decide, seq0 _, rfl, ?_⟩
        refine ⟨_, rfl, d, _, rfl, DPut.k (k := Sum.inr "rest") (by rw [upd_ne gd.symm]; exact se _ _ h1) (dr_lt g c r t), ?_⟩
        refine ⟨stay, ⟨gs, cs, x, t, by rw [upd_same, put_rest], ?_, ?_, h4, by simp only [List.length_cons] at h5; omega, h6, h7⟩, ((Up.of se).set (.inr rfl)).set (.inl rfl)⟩
        · rw [upd_ne gd, upd_same]; rfl
        · rw [upd_ne cd, upd_ne h7.symm]; exact se _ _ h3
    · rintro σ H1 ⟨⟨y2, y3, y4, y5, y6, rfl⟩, D1, u1⟩
      obtain ⟨gs, cs, r, t, h1, h2, h3, h4, h5, h6, h7⟩ := id D1
      have gd : g ≠ d := ne_of h2 h1 (by intro z; cases z)
      have cd : c ≠ d := ne_of h3 h1 (by intro z; cases z)
      have put : ∀ r' t' H2, H2 = upd H1 d (drO g c r' t') → Dr H2 d g c ∧ Up d g H H2 := fun r' t' H2 e => by
        subst e
        refine ⟨⟨gs, cs, r', t', upd_same, by rw [upd_ne gd]; exact h2, by rw [upd_ne cd]; exact h3, h4, h5, h6, h7⟩, u1.set (.inl rfl)⟩
      refine ⟨_, rfl, d, _, rfl, DGet.k (k := Sum.inr "rest") h1, _, _, rfl, rfl, _, rfl, ite2 (fun _ => ?_) (fun _ => ?_)⟩
      · refine ⟨_, rfl, d, _, rfl, DGet.k (k := Sum.inr "rest") h1, _, rfl, _, _, rfl, rfl, (by omega), ?_⟩
        refine ⟨_, rfl, d, _, rfl, DGet.k (k := Sum.inr "rest") h1, _, rfl, _, _, rfl, rfl, hdiv, _, rfl, d, _, rfl, DPut.k (k := Sum.inr "rest") h1 (dr_lt g c r t), ?_⟩
        obtain ⟨D2, u2⟩ := put (r / n) t _ rfl
        exact ⟨_, rfl, q _ _ (Int.fmod_nonneg_of_pos _ n0) (Int.fmod_lt_of_pos _ n0) D2 u2⟩
      · refine ⟨_, rfl, d, _, rfl, DGet.k (k := Sum.inr "turn") h1, _, rfl, d, _, rfl, DGet.k (k := Sum.inr "cells") h1, _, _, rfl, ?_⟩
        refine ⟨_, rfl, _, _, rfl, rfl, _, rfl, d, _, rfl, DPut.k (k := Sum.inr "turn") h1 (dr_lt g c r t), ?_⟩
        obtain ⟨D2, u2⟩ := put r (t + 1) (upd H1 d (.dK (putK (drL g c r t) (Sum.inr "turn") (.int (t + 1))))) rfl
        have h3' : (upd H1 d (.dK (putK (drL g c r t) (Sum.inr "turn") (.int (t + 1))))) c = some (.lst (cs.map V.int)) := by rw [upd_ne cd]; exact h3
        show tSeq _ _ _ _ (upd H1 d (.dK (putK (drL g c r t) (Sum.inr "turn") (.int (t + 1)))))
        generalize upd H1 d (.dK (putK (drL g c r t) (Sum.inr "turn") (.int (t + 1)))) = H2 at D2 u2 h3' ⊢
        have lp : 0 < cs.length := List.length_pos_iff.mpr h4
        obtain ⟨j, hj, ej⟩ : ∃ j : Nat, j < cs.length ∧ t.fmod (((cs.map V.int).length : Nat) : Int) = (j : Int) := by
          have a1 := Int.fmod_nonneg_of_pos t (show (0 : Int) < (((cs.map V.int).length : Nat) : Int) by rw [List.length_map]; omega)
          have a2 := Int.fmod_lt_of_pos t (show (0 : Int) < (((cs.map V.int).length : Nat) : Int) by rw [List.length_map]; omega)
          rw [List.length_map] at a1 a2
          exact ⟨(t.fmod (cs.length : Nat)).toNat, by omega, by rw [List.length_map]; omega⟩
        -- made
        refine ⟨_, rfl, _, rfl, _, rfl, c, _, rfl, .inl (sl h3'), _, _, rfl, rfl, (by rw [List.length_map]; omega), c, _, _, _, rfl, rfl, sl h3', by rw [ej]; exact atI_nat (by rw [List.getElem?_map, List.getElem?_eq_getElem hj]; rfl), ?_⟩
        refine ⟨_, rfl, _, _, rfl, rfl, .inl ⟨by decide, by decide⟩, _, _, rfl, rfl, _, _, rfl, rfl, _, _, rfl, rfl, .inr ⟨by decide, by decide⟩, _, _, rfl, rfl, (by show (0 : Int) < 2147483647; decide), ?_⟩
        generalize em : (cs[j] + 1299721 * t + 7919) * 48271 % 2147483647 = m
        have m0 : 0 ≤ m ∧ m < 2147483647 := by rw [← em]; exact ⟨Int.emod_nonneg _ (by decide), Int.emod_lt_of_pos _ (by decide)⟩
        -- prime
        refine ⟨by show 5 ≤ sizeLine; decide, fun e ne => ?_⟩
        have se : Same H2 (upd H2 e (.lst [.int 2147483629, .int 2147483587, .int 2147483579, .int 2147483563, .int 2147483549])) := same_upd ne
        have hee : (upd H2 e (.lst [.int 2147483629, .int 2147483587, .int 2147483579, .int 2147483563, .int 2147483549])) e = some (.lst [.int 2147483629, .int 2147483587, .int 2147483579, .int 2147483563, .int 2147483549]) := upd_same
        generalize upd H2 e (.lst [.int 2147483629, .int 2147483587, .int 2147483579, .int 2147483563, .int 2147483549]) = H3 at se hee ⊢
        obtain ⟨p, hp, p0⟩ : ∃ p : Int, atI [V.int 2147483629, .int 2147483587, .int 2147483579, .int 2147483563, .int 2147483549] (t % 5) = some (.int p) ∧ 0 < p := by
          have a1 := Int.emod_nonneg t (show (5 : Int) ≠ 0 by decide)
          have a2 := Int.emod_lt_of_pos t (show (0 : Int) < 5 by decide)
          rcases (by omega : t % 5 = 0 ∨ t % 5 = 1 ∨ t % 5 = 2 ∨ t % 5 = 3 ∨ t % 5 = 4) with z | z | z | z | z <;> rw [z]
          · exact ⟨_, atI_nat (j := 0) rfl, by decide⟩
          · exact ⟨_, atI_nat (j := 1) rfl, by decide⟩
          · exact ⟨_, atI_nat (j := 2) rfl, by decide⟩
          · exact ⟨_, atI_nat (j := 3) rfl, by decide⟩
          · exact ⟨_, atI_nat (j := 4) rfl, by decide⟩
        refine ⟨_, rfl, _, _, rfl, rfl, (by show (0 : Int) < 5; decide), e, _, _, _, rfl, rfl, sl hee, hp, ?_⟩
        -- the end
        refine ⟨_, rfl, _, rfl, _, rfl, _, _, rfl, rfl, .inl ⟨by decide, by decide⟩, _, _, rfl, rfl, _, _, rfl, rfl, _, _, rfl, rfl, .inl ⟨by omega, by omega⟩, _, rfl, _, _, rfl, rfl, (by omega), _, _, rfl, rfl, ⟨by decide, by decide⟩, _, rfl, _, _, rfl, rfl, (by omega), ?_⟩
        exact q _ _ (Int.fmod_nonneg_of_pos _ n0) (Int.fmod_lt_of_pos _ n0) (D2.same se) (u2.trans (Up.of se))
def spBegun (K : PySem.W.Frag) : Sp := fun vs H Q _ => ∃ (a : Addr) (ns : List Int), vs = [.ref a] ∧ SqL K H a (ns.map V.int) ∧ ns.length ≤ 63 ∧ ∀ d g c H', Same H H' → H d = none → H g = none → Dr H' d g c → Q (.ref d) H'
theorem ok_begun (T : Tp K mg) : FnOk P w K mg base CX0 1 T.f_begun T.fd_begun ["_law_script"] (spBegun K) := by
  refine T.D_begun.F.ok sc_begun (fun vs H Q E h => ?_) (fun cdv A outer s H vs Q E hr h => ?_)
  · obtain ⟨a, ns, rfl, _⟩ := h
    rfl
  · obtain ⟨a, ns, rfl, hS, hl, q⟩ := h
    refine ⟨_, (pss_cons (ps_setLc (i := 1) (own := [("_law_cell", 2)]) (g := gName 2) (by rfl) sc_begun.nd rfl rfl (sw_true rfl rfl rfl (by decide +kernel)) (pi_list (pv 0)) (blkOk_by (own := [("_law_cell", 2)]) (N := ["_law_script", "_law_great", "_law_cell"]) (sc := defScope s_begun) (by decide +kernel)) (fun _ _ _ _ _ => (pg_name (i := 2) sc_begun.nd rfl (.inl rfl))) (fun _ _ _ _ _ => (pts_one (pt_cmpR op_ge (pv 2) (pe_op op_pow pe_int pe_int) (nomark _)))) (fun _ _ _ _ _ => (pv 2)))
  (pss_one (ps_ret (pe_disp (pps_cons pe_str (pv 1) (pps_cons pe_str pe_int (pps_cons pe_str (pe_op op_cat (pe_callTy call_list_of (by rfl) T.list (by decide +kernel) (pa_cons (pv 0) pa_nil)) (pe_lst (pa_cons (pe_op op_add (pe_callB call_len_seq (by rfl) T.len PySem.boot_len (pa_cons (pv 0) pa_nil)) pe_int) pa_nil))) (pps_cons pe_str pe_int pps_nil)))) (by rfl) (by rfl) (fun z => by cases z) (by decide))))), ?_⟩
    refine ⟨_, rfl, a, rfl, ⟨_, hS⟩, fun g ng => lc_it walk_list (fun i H2 => Same H H2 ∧ ∃ gs : List Int, H2 g = some (.lst (gs.map V.int)) ∧ gs.length ≤ i) ⟨same_upd ng, [], upd_same, Nat.le_refl _⟩ (fun i H2 _ z => z.1.seq hS) ?_ ?_⟩
    · rintro i x H2 H3 hi ⟨sm, gs, hg, hz⟩ ⟨rfl, hx⟩
      rw [List.length_map] at hi
      rw [List.getElem?_map, List.getElem?_eq_getElem hi] at hx
      cases hx
      refine ⟨rfl, _, rfl, _, _, rfl, rfl, ⟨by decide, by decide, by decide⟩, _, _, rfl, rfl, _, rfl, ite2 (fun _ => ?_) (fun _ => ?_)⟩
      · refine ⟨_, rfl, _, hg, by rw [List.length_map]; exact small1000 (by omega), sm.own ng, gs ++ [ns[i]], by rw [upd_same, List.map_append]; rfl, by rw [List.length_append]; show gs.length + 1 ≤ i + 1; omega⟩
      · exact ⟨sm, gs, hg, by omega⟩
    · rintro H2 ⟨sm, gs, hg, hz⟩
      rw [List.length_map] at hz
      refine fun d nd => ?_
      have s1 : Same H (upd H2 d (.dK [])) := sm.trans (same_upd nd)
      have hd : (upd H2 d (.dK [])) d = some (.dK []) := upd_same
      have hg1 : (upd H2 d (.dK [])) g = some (.lst (gs.map V.int)) := same_upd nd _ _ hg
      generalize upd H2 d (.dK []) = H3 at s1 hd hg1 ⊢
      refine ⟨_, rfl, _, rfl, a, _, rfl, .inl (s1.seq hS), fun l nl => ?_⟩
      have s2 := same_upd (o := .lst (ns.map V.int)) nl
      have hl2 : (upd H3 l (.lst (ns.map V.int))) l = some (.lst (ns.map V.int)) := upd_same
      generalize upd H3 l (.lst (ns.map V.int)) = H4 at s2 hl2 ⊢
      refine ⟨_, rfl, a, _, rfl, .inl ((s1.trans s2).seq hS), _, _, rfl, rfl, (by show 1 ≤ sizeLine; decide), fun m nm => ?_⟩
      have s3 := same_upd (o := .lst [.int ((((ns.map V.int).length : Nat) : Int) + 5)]) nm
      have hm3 : (upd H4 m (.lst [.int ((((ns.map V.int).length : Nat) : Int) + 5)])) m = some (.lst [.int ((((ns.map V.int).length : Nat) : Int) + 5)]) := upd_same
      refine ⟨l, m, _, _, rfl, rfl, s3 _ _ hl2, hm3, Nat.le_trans (show _ ≤ 1000 by rw [List.length_map]; show ns.length + 1 ≤ 1000; omega) (by decide), fun c nc => ?_⟩
      have s4 := same_upd (o := .lst (ns.map V.int ++ [.int ((((ns.map V.int).length : Nat) : Int) + 5)])) nc
      have hc : (upd (upd H4 m (.lst [.int ((((ns.map V.int).length : Nat) : Int) + 5)])) c (.lst (ns.map V.int ++ [.int ((((ns.map V.int).length : Nat) : Int) + 5)]))) c = some (.lst ((ns ++ [(((ns.map V.int).length : Nat) : Int) + 5]).map V.int)) := by rw [upd_same, List.map_append]; rfl
      have s34 := s2.trans (s3.trans s4)
      show _ ∧ ∃ kvs : List (Key × V), _
      generalize upd (upd H4 m (.lst [.int ((((ns.map V.int).length : Nat) : Int) + 5)])) c (.lst (ns.map V.int ++ [.int ((((ns.map V.int).length : Nat) : Int) + 5)])) = H5 at s34 hc ⊢
      refine ⟨s34 _ _ hd, drL g c 0 0, rfl, by show 4 ≤ 15; decide, ?_⟩
      have nd0 : H d = none := sm.free nd
      have gd : g ≠ d := ne_of_none hg nd
      have cd : c ≠ d := ne_of hc (s34 _ _ hd) (by intro z; cases z)
      have gc : g ≠ c := ne_of_none ((s2.trans s3) _ _ hg1) nc
      refine q d g c _ ((s1.trans s34).own nd0) nd0 ng ⟨gs, ns ++ [(((ns.map V.int).length : Nat) : Int) + 5], 0, 0, upd_same, ?_, ?_, by simp, by omega, ?_, gc⟩
      · rw [upd_ne gd]; exact s34 _ _ hg1
      · rw [upd_ne cd]; exact hc
      · rw [List.length_append]; show ns.length + 1 ≤ 1000; omega
end
end T01
namespace T01
open PySem PySem.Spec PyProof.Rows L2 HX HB HG TL
/-! ### names -/
def sg (c : Nat) : Str := ⟨#[c]⟩
theorem joinL_sg : ∀ cs : List Nat, joinL [] (cs.map fun c => [c]) = cs
  | [] => rfl
  | [c] => rfl
  | c :: d :: r => by
    have ih := joinL_sg (d :: r)
    show [c] ++ [] ++ joinL [] ((d :: r).map fun c => [c]) = _
    rw [ih]
    rfl
theorem join_sg (cs : List Nat) : (Txt.join Str.empty (cs.map sg)).cps.toList = cs := by
  have h := tl_join Str.empty (cs.map sg)
  rw [← join_eq, List.map_map] at h
  exact h.trans (joinL_sg cs)
theorem join_name {cs : List Nat} (h1 : 1 ≤ cs.length) (h6 : cs.length ≤ 6) (hl : ∀ c ∈ cs, isLow c = true) : isNameL (Txt.join Str.empty (cs.map sg)) = true := by
  have e := join_sg cs
  have el : (Txt.join Str.empty (cs.map sg)).length = cs.length := by
    have := congrArg List.length e
    rw [Array.length_toList] at this
    exact this
  unfold isNameL
  rw [el, e, decide_eq_true h1, decide_eq_true h6, List.all_eq_true.mpr hl]
  rfl
theorem sg_sum : ∀ cs : List Nat, ((cs.map sg).map (·.length)).sum = cs.length
  | [] => rfl
  | c :: cs => by
    rw [List.map_cons, List.map_cons, List.sum_cons, sg_sum cs, List.length_cons]
    show 1 + cs.length = cs.length + 1
    omega
theorem letters_at {j : Nat} (h : j < 26) : atI ("abcdefghijklmnopqrstuvwxyz" : Str).cps.toList (j : Int) = some (j + 97) := by
  refine atI_nat ?_
  have e : ("abcdefghijklmnopqrstuvwxyz" : Str).cps.toList = (List.range 26).map (· + 97) := by decide +kernel
  rw [e, List.getElem?_map, List.getElem?_range h]
  rfl
section
variable {P : Program} {w : World} {K : PySem.W.Frag} {mg : Str → Option Value} {base : Heap}
def spNm : Sp := fun vs H Q _ => ∃ (d g c : Addr), vs = [.ref d] ∧ Dr H d g c ∧ ∀ z H', isNameL z = true → Dr H' d g c → Up d g H H' → Q (.str z) H'
def own13 : List Str := ["put", "read", "write", "tell", "send", "take", "hold", "rest", "nest", "within", "start", "off", "shield"]
def own13b : List Str := ["fail", "catch", "try", "if", "often", "cell", "lock", "sum", "minus", "less", "clock", "a", "ab"]
def own26 : List Str := own13 ++ own13b
theorem own_names : ∀ z ∈ own26, isNameL z = true := by decide +kernel
theorem ok_name (T : Tp K mg) : FnOk P w K mg base CX0 2 T.f_name T.fd_name ["_law_draw"] spNm := by
  refine T.D_name.F.ok sc_name (fun vs H Q E h => ?_) (fun cdv A outer s H vs Q E hr h => ?_)
  · obtain ⟨d, g, c, rfl, _⟩ := h
    rfl
  · obtain ⟨d, g, c, rfl, D, q⟩ := h
    refine ⟨_, (pss_cons (ps_set (i := 1) sc_name.nd rfl (.inl rfl) (pe_lst (pa_cons pe_str (pa_cons pe_str (pa_cons pe_str (pa_cons pe_str (pa_cons pe_str (pa_cons pe_str (pa_cons pe_str (pa_cons pe_str (pa_cons pe_str (pa_cons pe_str (pa_cons pe_str (pa_cons pe_str (pa_cons pe_str pa_nil)))))))))))))))
  (pss_cons (ps_set (i := 1) sc_name.nd rfl (.inl rfl) (pe_op op_cat (pv 1) (pe_lst (pa_cons pe_str (pa_cons pe_str (pa_cons pe_str (pa_cons pe_str (pa_cons pe_str (pa_cons pe_str (pa_cons pe_str (pa_cons pe_str (pa_cons pe_str (pa_cons pe_str (pa_cons pe_str (pa_cons pe_str (pa_cons pe_str pa_nil))))))))))))))))
  (pss_cons (ps_set (i := 2) sc_name.nd rfl (.inl rfl) (pe_ix ix_list (pv 1) (pcall T.D_next (ok_next T) hr (by rfl) (pa_cons (pv 0) (pa_cons pe_int pa_nil))) (fun _ _ => rfl)))
  (pss_cons (ps_par (i := 3) (j := 4) rfl sc_name.nd rfl rfl (by decide) rfl rfl (pa_cons (pe_op op_add pe_int (pcall T.D_next (ok_next T) hr (by rfl) (pa_cons (pv 0) (pa_cons pe_int pa_nil)))) (pa_cons (pcall T.D_next (ok_next T) hr (by rfl) (pa_cons (pv 0) (pa_cons pe_int pa_nil))) pa_nil)) (by rfl))
  (pss_cons (ps_setLc (i := 5) (own := [("_law_k", 6)]) (g := gName 6) (by rfl) sc_name.nd rfl rfl (sw_true rfl rfl rfl (by decide +kernel)) (pi_range1 (by rfl) T.range (pa_cons (pv 3) pa_nil)) (blkOk_by (own := [("_law_k", 6)]) (N := ["_law_draw", "_law_own", "_law_name_here", "_law_many", "_law_way", "_law_letters", "_law_k"]) (sc := defScope s_name) (by decide +kernel)) (fun _ _ _ _ _ => (pg_name (i := 6) sc_name.nd rfl (.inl rfl))) (fun _ _ _ _ _ => pts_nil) (fun _ _ _ _ _ => (pe_ix ix_str pe_str (pcall T.D_next (ok_next T) hr (by rfl) (pa_cons (pv 0) (pa_cons pe_int pa_nil))) (fun _ _ => rfl))))
  (pss_one (ps_ret (pe_ifExp (pt_cmpR op_eq (pv 4) pe_int (nomark _)) (pv 2) (pe_join pe_str (pv 5)))))))))), ?_⟩
    refine ⟨by show 13 ≤ sizeLine; decide, fun o no => ?_⟩
    have s1 := same_upd (o := .lst (own13.map V.str)) no
    have h1 : (upd H o (.lst (own13.map V.str))) o = some (.lst (own13.map V.str)) := upd_same
    show tSeq _ _ _ _ (upd H o (.lst (own13.map V.str)))
    generalize upd H o (.lst (own13.map V.str)) = H1 at s1 h1 ⊢
    refine ⟨_, rfl, by show 13 ≤ sizeLine; decide, fun o2 no2 => ?_⟩
    have s2 := same_upd (o := .lst (own13b.map V.str)) no2
    have h2 : (upd H1 o2 (.lst (own13b.map V.str))) o2 = some (.lst (own13b.map V.str)) := upd_same
    show rCat _ _ (upd H1 o2 (.lst (own13b.map V.str))) _
    generalize upd H1 o2 (.lst (own13b.map V.str)) = H2 at s2 h2 ⊢
    refine ⟨o, o2, _, _, rfl, rfl, s2 _ _ h1, h2, by show 26 ≤ sizeLine; decide, fun O nO => ?_⟩
    have s3 := same_upd (o := .lst (own26.map V.str)) nO
    have hO : (upd H2 O (.lst (own26.map V.str))) O = some (.lst (own26.map V.str)) := upd_same
    have s13 := (s1.trans s2).trans s3
    show tSeq _ _ _ _ (upd H2 O (.lst (own26.map V.str)))
    generalize upd H2 O (.lst (own26.map V.str)) = H3 at s13 hO ⊢
    have D3 := D.same s13
    have OD := (D.same (s1.trans s2)).apart nO
    have u3 : Up d g H H3 := Up.of s13
    -- name_here
    refine ⟨_, rfl, _, rfl, d, g, c, 26, rfl, D3, by decide, by decide, fun r H4 r0 r1 D4 u4 => ?_⟩
    obtain ⟨j, rfl⟩ : ∃ j : Nat, r = (j : Int) := ⟨r.toNat, by omega⟩
    have hj : j < own26.length := by show j < 26; omega
    refine ⟨O, _, _, .str own26[j], rfl, rfl, sl (u4 _ _ hO OD.1 OD.2.1), atI_nat (by rw [List.getElem?_map, List.getElem?_eq_getElem hj]; rfl), ?_⟩
    have hnm := own_names _ (List.getElem_mem hj)
    generalize own26[j] = nm at hnm ⊢
    -- many, way
    refine ⟨_, rfl, d, g, c, 6, rfl, D4, by decide, by decide, fun m H5 m0 m1 D5 u5 => ⟨_, _, rfl, rfl, ?_⟩⟩
    refine ⟨_, rfl, d, g, c, 3, rfl, D5, by decide, by decide, fun way H6 w0 w1 D6 u6 => ⟨_, _, rfl, ?_⟩⟩
    have u36 := ((u3.trans u4).trans u5).trans u6
    -- letters
    refine ⟨_, rfl, 1 + m, rfl, by omega, by omega, fun L nL => ?_⟩
    have LD := D6.apart nL
    refine lc_it walk_range (fun i H2 => Dr H2 d g c ∧ Up d g H6 H2 ∧ ∃ cs : List Nat, H2 L = some (.lst ((cs.map sg).map V.str)) ∧ cs.length = i ∧ ∀ x ∈ cs, isLow x = true) ⟨D6.same (same_upd nL), Up.of (same_upd nL), [], upd_same, rfl, fun _ z => by cases z⟩ (fun _ _ _ _ => trivial) ?_ ?_
    · rintro i x H7 H8 hi ⟨D7, u7, cs, hL, hcs, hlow⟩ ⟨rfl, rfl⟩
      refine ⟨rfl, _, rfl, d, g, c, 26, rfl, D7, by decide, by decide, fun r H9 r0 r1 D9 u9 => ?_⟩
      obtain ⟨k, rfl⟩ : ∃ k : Nat, r = (k : Int) := ⟨r.toNat, by omega⟩
      refine ⟨_, _, _, rfl, rfl, by show 26 ≤ sizeLine; decide, letters_at (by omega), _, u9 _ _ hL LD.1 LD.2.1, ?_, ?_, ?_, cs ++ [k + 97], ?_, ?_, ?_⟩
      · rw [List.length_map, List.length_map]; exact small1000 (by omega)
      · exact D9.set LD.1 LD.2.1 LD.2.2
      · exact (u7.trans u9).own nL
      · rw [upd_same, List.map_append, List.map_append]; rfl
      · rw [List.length_append, hcs]; rfl
      · intro y hy
        rcases List.mem_append.mp hy with hy | hy
        · exact hlow y hy
        · rw [List.mem_singleton.mp hy]
          unfold isLow
          rw [decide_eq_true (by omega), decide_eq_true (by omega)]
          rfl
    · rintro H7 ⟨D7, u7, cs, hL, hcs, hlow⟩
      refine ⟨_, rfl, rfl, _, rfl, ite2 (fun _ => ?_) (fun _ => ?_)⟩
      · exact ⟨_, rfl, q _ _ hnm D7 (u36.trans u7)⟩
      · refine ⟨⟨_, rfl⟩, _, rfl, _, L, _, rfl, rfl, .inl (sl hL), ?_, ?_⟩
        · rw [sg_sum, List.length_map, show (Str.ofString "").length = 0 from rfl]
          omega
        · exact q _ _ (join_name (by omega) (by omega) hlow) D7 (u36.trans u7)
/-! ### unlike names -/
theorem pigeon {α : Type} [DecidableEq α] : ∀ (l m : List α), l.Nodup → (∀ x ∈ l, x ∈ m) → l.length ≤ m.length
  | [], _, _, _ => Nat.zero_le _
  | x :: l, m, hn, h => by
    have hx := h x (List.mem_cons_self ..)
    have hn' := List.nodup_cons.mp hn
    have ih := pigeon l (m.erase x) hn'.2 fun y hy => (List.mem_erase_of_ne (fun e => hn'.1 (by rw [← e]; exact hy))).mpr (h y (List.mem_cons_of_mem _ hy))
    rw [List.length_erase_of_mem hx] at ih
    have := List.length_pos_of_mem hx
    rw [List.length_cons]
    omega
def spare : List Str := ["za", "zb", "zc", "zd", "ze", "zf", "zg", "zh", "zi"]
theorem spare_names : ∀ z ∈ spare, isNameL z = true := by decide +kernel
theorem spare_nodup : spare.Nodup := by decide +kernel
theorem inV_strs (z : Str) : ∀ zs : List Str, inV (.str z) (zs.map V.str) = decide (z ∈ zs)
  | [] => by simp [inV]
  | y :: zs => by
    have ih := inV_strs z zs
    show (eqV (.str y) (.str z) || inV (.str z) (zs.map V.str)) = _
    rw [ih]
    simp only [eqV, List.mem_cons, Bool.decide_or]
    congr 1
    by_cases h : z = y
    · subst h; simp
    · rw [decide_eq_false h]; exact beq_eq_false_iff_ne.mpr (Ne.symm h)
theorem flat_strs : ∀ zs : List Str, (zs.map V.str).all flatV = true
  | [] => rfl
  | z :: zs => by rw [List.map_cons, List.all_cons, flat_strs zs]; rfl
def spNms : Sp := fun vs H Q _ => ∃ (d g c : Addr) (n : Nat), vs = [.ref d, .int (n : Int)] ∧ n ≤ 9 ∧ Dr H d g c ∧ ∀ (p : Addr) (zs : List Str) (H' : Hp), H p = none → H' p = some (.lst (zs.map V.str)) → zs.length = n → (∀ z ∈ zs, isNameL z = true) → zs.Nodup → Dr H' d g c → Up d g H H' → Q (.ref p) H'
theorem ok_names (T : Tp K mg) : FnOk P w K mg base CX0 3 T.f_names T.fd_names ["_law_draw", "_law_many"] spNms := by
  refine T.D_names.F.ok sc_names (fun vs H Q E h => ?_) (fun cdv A outer s H vs Q E hr h => ?_)
  · obtain ⟨d, g, c, n, rfl, _⟩ := h
    rfl
  · obtain ⟨d, g, c, n, rfl, hn, D, q⟩ := h
    refine ⟨_, (pss_cons (ps_set (i := 2) sc_names.nd rfl (.inr rfl) (pe_lst pa_nil))
  (pss_cons (ps_for PassesOwn.never rfl (pi_range1 (by rfl) T.range (pa_cons (pv 1) pa_nil)) (pg_name (i := 3) sc_names.nd rfl (.inl rfl))
  (pss_cons (ps_set (i := 4) sc_names.nd rfl (.inl rfl) (pcall T.D_name (ok_name T) hr (by rfl) (pa_cons (pv 0) pa_nil)))
  (Evl.pss_cut (ps_if (pt_cmpR op_in_seq (pv 4) (pv 2) (by rfl))
  (pss_one (ps_set (i := 4) sc_names.nd rfl (.inl rfl) (pe_ix ix_list (pe_lc (own := [("_law_one", 5)]) (g := gName 5) (by rfl) sc_names.nd (pi_list (pe_lst (pa_cons pe_str (pa_cons pe_str (pa_cons pe_str (pa_cons pe_str (pa_cons pe_str (pa_cons pe_str (pa_cons pe_str (pa_cons pe_str (pa_cons pe_str pa_nil))))))))))) (blkOk_by (own := [("_law_one", 5)]) (N := ["_law_draw", "_law_many", "_law_found", "_law_k", "_law_name_here", "_law_one"]) (sc := defScope s_names) (by decide +kernel)) (fun _ _ _ _ _ => (pg_name (i := 5) sc_names.nd rfl (.inl rfl))) (fun _ _ _ _ _ => (pts_one (pt_cmpR (show OpR _ _ (rIn K true) from op_notIn_seq) (pv 5) (pv 2) (by rfl)))) (fun _ _ _ _ _ => (pv 5))) pe_int (fun _ _ => rfl))))
  pss_nil)
  (pss_one (ps_expr (pe_bm PySem.F.plainAttrs_list PySem.F.slot_list_append PySem.F.type_list_append mt_append (pv 2) (pa_cons (pv 4) pa_nil)))))))
  (pss_one (ps_ret (pv 2))))), ?_⟩
    refine ⟨Nat.zero_le _, fun p np => ?_⟩
    have pD := D.apart np
    have hp : (upd H p (.lst [])) p = some (.lst []) := upd_same
    have D1 := D.same (same_upd (o := .lst []) np)
    have u1 : Up d g H (upd H p (.lst [])) := Up.of (same_upd np)
    generalize upd H p (.lst []) = H1 at hp D1 u1 ⊢
    refine ⟨_, rfl, (n : Int), rfl, by omega, by omega, for_range (lo := 0) (n := ((n : Int) - 0).toNat) (fun i σ H2 => ∃ (zs : List Str) (y2 y4 y5 : Option V), σ = [some (.ref d), some (.int (n : Int)), some (.ref p), y2, y4, y5] ∧ H2 p = some (.lst (zs.map V.str)) ∧ zs.length = i ∧ (∀ z ∈ zs, isNameL z = true) ∧ zs.Nodup ∧ Dr H2 d g c ∧ Up d g H H2) ?_ ?_ ?_⟩
    · exact ⟨[], _, _, _, rfl, hp, rfl, fun _ z => (by cases z), List.nodup_nil, D1, u1⟩
    · rintro i σ H2 hi ⟨zs, y2, y4, y5, rfl, h2, hl, hz, hnd, D2, u2⟩
      refine ⟨_, rfl, d, g, c, rfl, D2, fun z H3 hnm D3 u3 => ?_⟩
      have h3 := u3 _ _ h2 pD.1 pD.2.1
      refine ⟨fun σ H4 => ∃ (z : Str) (y5 : Option V), σ = [some (.ref d), some (.int (n : Int)), some (.ref p), some (.int (0 + (i : Int))), some (.str z), y5] ∧ H4 p = some (.lst (zs.map V.str)) ∧ isNameL z = true ∧ z ∉ zs ∧ Dr H4 d g c ∧ Up d g H H4, ?_, ?_⟩
      · refine ⟨_, rfl, _, rfl, p, _, rfl, .inl (sl h3), rfl, flat_strs zs, _, rfl, ?_⟩
        rw [if_neg Bool.false_ne_true, inV_strs]
        refine ite2 (fun _ => ?_) (fun h => ⟨z, y5, rfl, h3, hnm, fun hm => h (decide_eq_true hm), D3, u2.trans u3⟩)
        refine ⟨by show 9 ≤ sizeLine; decide, fun l nl => ?_⟩
        have s4 := same_upd (o := .lst [V.str "za", V.str "zb", V.str "zc", V.str "zd", V.str "ze", V.str "zf", V.str "zg", V.str "zh", V.str "zi"]) nl
        have hl4 : (upd H3 l (.lst [V.str "za", V.str "zb", V.str "zc", V.str "zd", V.str "ze", V.str "zf", V.str "zg", V.str "zh", V.str "zi"])) l = some (.lst (spare.map V.str)) := upd_same
        generalize upd H3 l (.lst [V.str "za", V.str "zb", V.str "zc", V.str "zd", V.str "ze", V.str "zf", V.str "zg", V.str "zh", V.str "zi"]) = H4 at s4 hl4 ⊢
        refine ⟨l, rfl, ⟨_, sl hl4⟩, fun L nL => ?_⟩
        refine lc_it (walk_list (xs := spare.map V.str)) (fun i H5 => Same H4 H5 ∧ H5 L = some (.lst (((spare.take i).filter fun x => decide (x ∉ zs)).map V.str))) ⟨same_upd nL, upd_same⟩ (fun i H5 _ g => sl (g.1 _ _ hl4)) ?_ ?_
        · rintro i x H5 H6 hi ⟨sm, hL⟩ ⟨rfl, hx⟩
          rw [List.length_map] at hi
          rw [List.getElem?_map, List.getElem?_eq_getElem hi] at hx
          cases hx
          refine ⟨rfl, _, rfl, _, rfl, p, _, rfl, .inl (sl (sm _ _ (s4 _ _ h3))), rfl, flat_strs zs, _, rfl, ?_⟩
          rw [if_pos rfl, inV_strs, ← decide_not]
          have take1 : (spare.take (i + 1)).filter (fun x => decide (x ∉ zs)) = ((spare.take i).filter fun x => decide (x ∉ zs)) ++ (if spare[i] ∉ zs then [spare[i]] else []) := by
            rw [List.take_add_one, List.getElem?_eq_getElem hi, List.filter_append]
            congr 1
            by_cases hm : spare[i] ∈ zs
            · simp [hm]
            · simp [hm]
          refine ite2 (fun hm => ?_) (fun hm => ?_)
          · have hm := of_decide_eq_true hm
            refine ⟨_, rfl, _, hL, ?_, sm.own nL, ?_⟩
            · rw [List.length_map]
              exact small1000 (Nat.le_trans (List.length_filter_le _ _) (Nat.le_trans (List.length_take_le _ _) (by have : spare.length = 9 := rfl; omega)))
            · rw [upd_same, take1, if_pos hm, List.map_append]
              rfl
          · refine ⟨sm, ?_⟩
            rw [take1, if_neg (fun h => hm (decide_eq_true h)), List.append_nil]
            exact hL
        · rintro H5 ⟨sm, hL⟩
          rw [List.length_map, List.take_length] at hL
          have some1 : ∃ z1 r, (spare.filter fun x => decide (x ∉ zs)) = z1 :: r := by
            cases e : spare.filter fun x => decide (x ∉ zs) with
            | cons z1 r => exact ⟨z1, r, rfl⟩
            | nil =>
              have all : ∀ x ∈ spare, x ∈ zs := fun x hx => by
                have := List.filter_eq_nil_iff.mp e x hx
                simpa using this
              have := pigeon spare zs spare_nodup all
              have e9 : spare.length = 9 := rfl
              omega
          obtain ⟨z1, r, e1⟩ := some1
          have hz1 : z1 ∈ spare.filter fun x => decide (x ∉ zs) := by rw [e1]; exact List.mem_cons_self ..
          obtain ⟨m1, m2⟩ := List.mem_filter.mp hz1
          rw [e1] at hL
          refine ⟨L, _, _, .str z1, rfl, rfl, sl hL, atI_nat (j := 0) rfl, z1, y5, rfl, sm _ _ (s4 _ _ h3), spare_names _ m1, of_decide_eq_true m2, D3.same (s4.trans sm), (u2.trans u3).trans (Up.of (s4.trans sm))⟩
      · rintro σ H4 ⟨z, y5, rfl, h4, hnm, hnz, D4, u4⟩
        refine ⟨_, rfl, .inl ⟨rfl, _, sl h4⟩, _, rfl, p, _, _, rfl, rfl, h4, by rw [List.length_map]; exact small1000 (by omega), ?_⟩
        refine ⟨zs ++ [z], _, _, _, rfl, by rw [upd_same, List.map_append]; rfl, by rw [List.length_append, hl]; rfl, ?_, ?_, D4.set pD.1 pD.2.1 pD.2.2, u4.own np⟩
        · intro y hy
          rcases List.mem_append.mp hy with hy | hy
          · exact hz y hy
          · rw [List.mem_singleton.mp hy]; exact hnm
        · rw [List.nodup_append]
          exact ⟨hnd, by simp, fun a ha b hb e => hnz (by rw [List.mem_singleton.mp hb] at e; exact e ▸ ha)⟩
    · rintro σ H2 ⟨zs, y2, y4, y5, rfl, h2, hl, hz, hnd, D2, u2⟩
      exact ⟨_, rfl, q p zs H2 np h2 (by omega) hz hnd D2 u2⟩
end
end T01
namespace T01
open PySem PySem.Spec PyProof.Rows L2 HX HB HG TL
/-! ### calcs drawn -/
def Calc.words : Calc → List Str
  | .num _ => []
  | .word w => [w]
  | .op _ a b => a.words ++ b.words
theorem CR.mono {K : PySem.W.Frag} {H : Hp} {n : Nat} {v : V} {b : Bool} (h : CR K H n v b) : ∀ {m : Nat}, n ≤ m → CR K H m v b := by
  induction h with
  | str h => exact fun _ => .str h
  | int i => exact fun _ => .int i
  | bl b => exact fun _ => .bl b
  | non => exact fun _ => .non
  | lst h => exact fun _ => .lst h
  | dct h => exact fun _ => .dct h
  | len h hl => exact fun _ => .len h hl
  | num h => exact fun _ => .num h
  | kin h hs => exact fun _ => .kin h hs
  | @op n a s y z b c h hs hy hz ih1 ih2 =>
    intro m hm
    obtain ⟨k, rfl⟩ : ∃ k, m = k + 1 := ⟨m - 1, by omega⟩
    exact .op h hs (ih1 (by omega)) fun e => ih2 e (by omega)
theorem CA.cr {K : PySem.W.Frag} {H : Hp} {n : Nat} {v : V} {k : Calc} (h : CA K H n v k) (hw : ∀ w ∈ k.words, isNameL w = true) : CR K H n v true := by
  induction h with
  | num i => exact .int i
  | word w =>
    have hn := hw w (List.mem_singleton.mpr rfl)
    have hl : w.length ≤ 1000 := by
      unfold isNameL at hn
      simp only [Bool.and_eq_true, decide_eq_true_eq] at hn
      omega
    have := CR.str (K := K) (H := H) (n := by assumption) (z := w) hl
    rwa [hn] at this
  | op h hy hz ih1 ih2 =>
    have h1 := ih1 fun w hm => hw w (List.mem_append_left _ hm)
    have h2 := ih2 fun w hm => hw w (List.mem_append_right _ hm)
    exact .op h (Kd.ok _) h1 fun _ => h2
/-- the play: four names -/
structure Play (H : Hp) (d g pl W : Addr) (ws : List Str) : Prop where
  hpl : H pl = some (.dK [(Sum.inr "words", .ref W)])
  hW : H W = some (.lst (ws.map V.str))
  four : ws.length = 4
  ok : ∀ z ∈ ws, isNameL z = true
  ap : pl ≠ d ∧ pl ≠ g ∧ W ≠ d ∧ W ≠ g
theorem Play.up {H H' : Hp} {d g pl W : Addr} {ws : List Str} (P : Play H d g pl W ws) (u : Up d g H H') : Play H' d g pl W ws :=
  ⟨u _ _ P.hpl P.ap.1 P.ap.2.1, u _ _ P.hW P.ap.2.2.1 P.ap.2.2.2, P.four, P.ok, P.ap⟩
def kd3 : List Kd := [.sum, .minus, .less]
section
variable {P : Program} {w : World} {K : PySem.W.Frag} {mg : Str → Option Value} {base : Heap}
def spLc (K : PySem.W.Frag) (n : Nat) : Sp := fun vs H Q _ => ∃ (d g c pl W : Addr) (ws : List Str), vs = [.ref d, .ref pl, .int (n : Int)] ∧ Dr H d g c ∧ Play H d g pl W ws ∧
  ∀ (v : V) (k : Calc) (H' : Hp), CA K H' n v k → (∀ x ∈ k.words, x ∈ ws) → Dr H' d g c → Up d g H H' → Q v H'
theorem ok_lcalc (T : Tp K mg) : ∀ n, FnOk P w K mg base CX0 (n + 1 + 1) T.f_lcalc T.fd_lcalc ["_law_draw", "_law_play", "_law_deep"] (spLc K n) := rec_fn (c := 1) (sp := spLc K) fun n ih => by
  refine T.D_lcalc.F.ok sc_lcalc (fun vs H Q E h => ?_) (fun cdv A outer s H vs Q E hr h => ?_)
  · obtain ⟨d, g, c, pl, W, ws, rfl, _⟩ := h
    rfl
  · obtain ⟨d, g, c, pl, W, ws, rfl, D, Y, q⟩ := h
    have hu := hu_of hr
    refine ⟨_, (pss_cons (ps_set (i := 3) sc_lcalc.nd rfl (.inl rfl) (pcall T.D_next (ok_next T) (hr.mono (by omega)) (by rfl) (pa_cons (pv 0) (pa_cons pe_int pa_nil))))
  (Evl.pss_cut (ps_if (PW.pt (pw_and (pt_cmpR op_gt (pv 2) pe_int (nomark _)) (pw_and1 (pt_cmpR op_gt (pv 3) pe_int (nomark _)))))
  (pss_cons (ps_set (i := 4) sc_lcalc.nd rfl (.inl rfl) (pe_ix ix_list (pe_lst (pa_cons pe_str (pa_cons pe_str (pa_cons pe_str pa_nil)))) (pcall T.D_next (ok_next T) (hr.mono (by omega)) (by rfl) (pa_cons (pv 0) (pa_cons pe_int pa_nil))) (fun _ _ => rfl)))
  (pss_cons (ps_set (i := 5) sc_lcalc.nd rfl (.inl rfl) (pcall T.D_lcalc ih (hr.mono (by omega)) (by rfl) (pa_cons (pv 0) (pa_cons (pv 1) (pa_cons (pe_op op_sub (pv 2) pe_int) pa_nil)))))
  (pss_one (ps_ret (pe_tup (pa_cons (pv 4) (pa_cons (pv 5) (pa_cons (pcall T.D_lcalc ih (hr.mono (by omega)) (by rfl) (pa_cons (pv 0) (pa_cons (pv 1) (pa_cons (pe_op op_sub (pv 2) pe_int) pa_nil)))) pa_nil))))))))
  pss_nil)
  (pss_cons (ps_set (i := 6) sc_lcalc.nd rfl (.inl rfl) (pe_ix ix_list (pe_lst (pa_cons (pe_op op_sub (pcall T.D_next (ok_next T) (hr.mono (by omega)) (by rfl) (pa_cons (pv 0) (pa_cons pe_int pa_nil))) pe_int) (pa_cons (pcall T.D_next (ok_next T) (hr.mono (by omega)) (by rfl) (pa_cons (pv 0) (pa_cons (pe_op op_pow pe_int pe_int) pa_nil))) (pa_cons (pe_op op_sub pe_int (pcall T.D_next (ok_next T) (hr.mono (by omega)) (by rfl) (pa_cons (pv 0) (pa_cons (pe_op op_pow pe_int pe_int) pa_nil)))) pa_nil)))) (pcall T.D_next (ok_next T) (hr.mono (by omega)) (by rfl) (pa_cons (pv 0) (pa_cons pe_int pa_nil))) (fun _ _ => rfl)))
  (pss_one (ps_ret (pe_ifExp (pt_cmpR op_eq (pv 3) pe_int (nomark _)) (pv 6) (pe_ix ix_list (pe_dget hu (pv 1) pe_str (fun _ _ => rfl)) (pcall T.D_next (ok_next T) (hr.mono (by omega)) (by rfl) (pa_cons (pv 0) (pa_cons pe_int pa_nil))) (fun _ _ => rfl)))))))), ?_⟩
    -- way
    refine ⟨_, rfl, d, g, c, 5, rfl, D, by decide, by decide, fun way H1 w0 w1 D1 u1 => ?_⟩
    refine ⟨fun σ H2 => (∃ y4 y5 y6, σ = [some (.ref d), some (.ref pl), some (.int (n : Int)), some (.int way), y4, y5, y6]) ∧ H2 = H1, ?_, ?_⟩
    · have out : ∃ y4 y5 y6, (start ["_law_draw", "_law_play", "_law_deep", "_law_way", "_law_kind", "_law_one", "_law_number"] [.ref d, .ref pl, .int (n : Int)]).set 3 (some (.int way)) = [some (.ref d), some (.ref pl), some (.int (n : Int)), some (.int way), y4, y5, y6] := ⟨_, _, _, rfl⟩
      refine ⟨_, rfl, _, _, rfl, rfl, _, rfl, ite2 (fun hn => ?_) (fun _ => iteF ⟨out, rfl⟩)⟩
      refine ⟨_, rfl, _, _, rfl, rfl, _, rfl, ite2 (fun _ => ?_) (fun _ => ⟨out, rfl⟩)⟩
      have hn : (0 : Int) < (n : Int) := of_decide_eq_true hn
      obtain ⟨m, rfl⟩ : ∃ m, n = m + 1 := ⟨n - 1, by omega⟩
      have em : (((m + 1 : Nat) : Int) - 1) = (m : Int) := by omega
      -- kind
      refine ⟨by show 3 ≤ sizeLine; decide, fun l nl => ?_⟩
      have s2 := same_upd (o := .lst (kd3.map fun k => V.str k.nm)) nl
      have hl2 : (upd H1 l (.lst [.str "sum", .str "minus", .str "less"])) l = some (.lst (kd3.map fun k => V.str k.nm)) := upd_same
      have lD := D1.apart nl
      refine ⟨_, rfl, d, g, c, 3, rfl, D1.same s2, by decide, by decide, fun r H3 r0 r1 D3 u3 => ?_⟩
      obtain ⟨j, rfl⟩ : ∃ j : Nat, r = (j : Int) := ⟨r.toNat, by omega⟩
      have hj : j < kd3.length := by show j < 3; omega
      refine ⟨l, _, _, .str kd3[j].nm, rfl, rfl, sl (u3 _ _ hl2 lD.1 lD.2.1), atI_nat (by rw [List.getElem?_map, List.getElem?_eq_getElem hj]; rfl), ?_⟩
      generalize kd3[j] = k
      have u13 : Up d g H1 H3 := (Up.of s2).trans u3
      -- one
      refine ⟨_, rfl, _, rfl, _, rfl, _, _, rfl, rfl, d, g, c, pl, W, ws, by show [V.ref d, V.ref pl, V.int (((m + 1 : Nat) : Int) - 1)] = _; rw [em], D3, (Y.up u1).up u13, fun v1 k1 H4 a1 w1 D4 u4 => ?_⟩
      -- the pair
      refine ⟨_, rfl, _, rfl, _, rfl, _, rfl, _, rfl, _, _, rfl, rfl, d, g, c, pl, W, ws, by show [V.ref d, V.ref pl, V.int (((m + 1 : Nat) : Int) - 1)] = _; rw [em], D4, ((Y.up u1).up u13).up u4, fun v2 k2 H5 a2 w2 D5 u5 => ?_⟩
      refine ⟨by show 3 ≤ sizeLine; decide, fun p np => ?_⟩
      have s6 := same_upd (o := .tup [.str k.nm, v1, v2]) np
      refine q _ (.op k k1 k2) _ (.op (stt upd_same) ((u5.ca D4 a1).same s6) (a2.same s6)) (fun x hx => (List.mem_append.mp hx).elim (w1 x) (w2 x)) (D5.same s6) ((((u1.trans u13).trans u4).trans u5).trans (Up.of s6))
    · rintro σ H2 ⟨⟨y4, y5, y6, rfl⟩, rfl⟩
      -- number
      refine ⟨_, rfl, d, g, c, 7, rfl, D1, by decide, by decide, fun r1 H3 r10 r11 D3 u3 => ⟨_, _, rfl, rfl, ?_⟩⟩
      refine ⟨_, rfl, _, _, rfl, rfl, ⟨by decide, by decide, by decide⟩, d, g, c, (10 : Int) ^ (12 : Int).toNat, rfl, D3, by decide, by decide, fun r2 H4 r20 r21 D4 u4 => ?_⟩
      refine ⟨_, rfl, _, _, rfl, rfl, ⟨by decide, by decide, by decide⟩, d, g, c, (10 : Int) ^ (6 : Int).toNat, rfl, D4, by decide, by decide, fun r3 H5 r30 r31 D5 u5 => ⟨_, _, rfl, rfl, by show 3 ≤ sizeLine; decide, fun l nl => ?_⟩⟩
      have s6 := same_upd (o := .lst ([r1 - 3, r2, 0 - r3].map V.int)) nl
      have hl6 : (upd H5 l (.lst [.int (r1 - 3), .int r2, .int (0 - r3)])) l = some (.lst ([r1 - 3, r2, 0 - r3].map V.int)) := upd_same
      have lD := D5.apart nl
      refine ⟨_, rfl, d, g, c, 3, rfl, D5.same s6, by decide, by decide, fun r H7 r0 r1' D7 u7 => ?_⟩
      obtain ⟨j, rfl⟩ : ∃ j : Nat, r = (j : Int) := ⟨r.toNat, by omega⟩
      have hj : j < [r1 - 3, r2, 0 - r3].length := by show j < 3; omega
      refine ⟨l, _, _, .int ([r1 - 3, r2, 0 - r3][j]), rfl, rfl, sl (u7 _ _ hl6 lD.1 lD.2.1), atI_nat (by rw [List.getElem?_map, List.getElem?_eq_getElem hj]; rfl), ?_⟩
      generalize [r1 - 3, r2, 0 - r3][j] = nm
      have u07 : Up d g H H7 := ((((u1.trans u3).trans u4).trans u5).trans (Up.of s6)).trans u7
      refine ⟨_, rfl, rfl, _, rfl, ite2 (fun _ => ?_) (fun _ => ?_)⟩
      · exact ⟨_, rfl, q _ (.num nm) _ (.num nm) (fun x hx => by cases hx) D7 u07⟩
      · have Y7 := Y.up u07
        refine ⟨_, rfl, pl, _, rfl, DGet.k (k := Sum.inr "words") Y7.hpl, _, rfl, d, g, c, 4, rfl, D7, by decide, by decide, fun r H8 r0 r1 D8 u8 => ?_⟩
        obtain ⟨j, rfl⟩ : ∃ j : Nat, r = (j : Int) := ⟨r.toNat, by omega⟩
        have hj : j < ws.length := by rw [Y.four]; omega
        exact ⟨W, _, _, .str ws[j], rfl, rfl, sl (Y7.up u8).hW, atI_nat (by rw [List.getElem?_map, List.getElem?_eq_getElem hj]; rfl), q _ (.word ws[j]) _ (.word _) (fun x hx => by rw [List.mem_singleton.mp hx]; exact List.getElem_mem hj) D8 (u07.trans u8)⟩
end
end T01
namespace T01
open PySem PySem.Spec PyProof.Rows L2 HX HB HG TL
section
variable {P : Program} {w : World} {K : PySem.W.Frag} {mg : Str → Option Value} {base : Heap}
theorem cut1_3 (x y z : V) : cutV [x, y, z] (some 1) none = [y, z] := rfl
theorem ok_lworth (T : Tp K mg) : ∀ n, FnOk P w K mg base CX0 (n + 1) T.f_lworth T.fd_lworth ["_law_calc_here", "_law_words"] (spWorth K n) := rec_fn (c := 0) (sp := spWorth K) fun n ih => by
  refine T.D_lworth.F.ok sc_lworth (fun vs H Q E h => ?_) (fun cdv A outer s H vs Q E hr h => ?_)
  · obtain ⟨v, c, d, ws, rfl, _⟩ := h
    rfl
  · obtain ⟨v, c, d, ws, rfl, hc, hd, q⟩ := h
    have hu := hu_of hr
    refine ⟨_, (pss_cons (ps_if (pt_val (pe_callB call_isi (by rfl) T.isinstance (by decide +kernel) (pa_cons (pv 0) (pa_cons (pe_bltn (v := .ty "str") (by rfl) T.str (by decide +kernel) rfl) pa_nil))))
  (pss_one (ps_ret (pe_ifExp (pt_cmp (pc_din hu (pv 0) (pv 1))) (pe_dget hu (pv 1) (pv 0) (fun _ _ => rfl)) pe_int)))
  pss_nil)
  (pss_cons (ps_if (pt_val (pe_callB call_isi (by rfl) T.isinstance (by decide +kernel) (pa_cons (pv 0) (pa_cons (pe_bltn (v := .ty "int") (by rfl) T.int (by decide +kernel) rfl) pa_nil))))
  (pss_one (ps_ret (pv 0)))
  pss_nil)
  (pss_cons (ps_asg (pe_lc (own := [("_law_part", 4)]) (g := gName 4) (by rfl) sc_lworth.nd (pi_tup (pe_slice sl_tup (pv 0) (po_some pe_int) po_none)) (blkOk_by (own := [("_law_part", 4)]) (N := ["_law_calc_here", "_law_words", "_law_one", "_law_other", "_law_part"]) (sc := defScope s_lworth) (by decide +kernel)) (fun _ _ _ _ _ => (pg_name (i := 4) sc_lworth.nd rfl (.inl rfl))) (fun _ _ _ _ _ => pts_nil) (fun _ _ _ _ _ => (pcall T.D_lworth ih (hr.mono (by omega)) (by rfl) (pa_cons (pv 4) (pa_cons (pv 1) pa_nil))))) (pg_unl rfl (pgs_cons (pg_name (i := 2) sc_lworth.nd rfl (.inl rfl)) (pgs_cons (pg_name (i := 3) sc_lworth.nd rfl (.inl rfl)) pgs_nil))))
  (pss_one (ps_ret (pe_dget hu (pe_disp (pps_cons pe_str (pe_op op_add (pv 2) (pv 3)) (pps_cons pe_str (pe_op op_sub (pv 2) (pv 3)) (pps_cons pe_str (pe_ix ix_list (pe_lst (pa_cons pe_int (pa_cons pe_int pa_nil))) (pe_callTy call_int1 (by rfl) T.int (by decide +kernel) (pa_cons (pe_cmpR op_gt (pv 3) (pv 2) (nomark _)) pa_nil)) (fun _ _ => rfl)) pps_nil))) (by rfl) (by rfl) (fun z => by cases z) (by decide)) (pe_ix ix_tup (pv 0) pe_int (fun _ _ => rfl)) (fun _ _ => rfl))))))), ?_⟩
    cases hc with
    | num i =>
      refine ⟨_, rfl, _, _, _, _, false, rfl, .ty "str", .base (.int _), kit_ty (by decide +kernel), false, rfl, ?_⟩
      refine ⟨_, rfl, _, _, _, _, true, rfl, .ty "int", .base (.int _), kit_ty (by decide +kernel), true, rfl, ?_⟩
      exact ⟨_, rfl, q H (Same.refl H)⟩
    | word x =>
      refine ⟨_, rfl, _, _, _, _, true, rfl, .ty "str", .base (.str _), kit_ty (by decide +kernel), true, rfl, ?_⟩
      refine ⟨_, rfl, _, rfl, d, _, rfl, DGet.k (k := Sum.inr x) hd, _, rfl, ?_⟩
      have := q H (Same.refl H)
      unfold Calc.worth at this
      rw [look_val]
      cases e : look ws x with
      | none => rw [e] at this; exact iteF this
      | some i =>
        rw [e] at this
        refine iteT ⟨_, rfl, _, rfl, d, _, rfl, (by have := DGet.k (k := Sum.inr x) hd; rwa [look_val, e] at this), this⟩
    | op h hy hz =>
      rename_i n0 a k y z c1 c2
      refine ⟨_, rfl, _, _, _, _, false, rfl, .ty "str", ty_tup h, kit_ty (by decide +kernel), false, rfl, ?_⟩
      refine ⟨_, rfl, _, _, _, _, false, rfl, .ty "int", ty_tup h, kit_ty (by decide +kernel), false, rfl, ?_⟩
      refine ⟨_, rfl, 1, rfl, a, _, rfl, h, (by show ¬ (HT.sIx 3 0 (some ((1 : Nat) : Int)) = 0 ∧ _); rw [HT.sIx_nat]; simp), fun p np => ?_⟩
      have s1 : Same H (upd H p (.tup (cutV [.str k.nm, y, z] (some 1) none))) := same_upd np
      have hp : SqT K (upd H p (.tup (cutV [.str k.nm, y, z] (some 1) none))) p [y, z] := stt (by rw [upd_same, cut1_3])
      generalize upd H p (.tup (cutV [.str k.nm, y, z] (some 1) none)) = H1 at s1 hp ⊢
      refine ⟨p, rfl, ⟨_, hp⟩, fun D nD => lc_it walk_tup (fun i H2 => Same H1 H2 ∧ H2 D = some (.lst (([c1, c2].map fun c => V.int (c.worth ws)).take i))) ⟨same_upd nD, upd_same⟩ (fun i H2 _ g => g.1.sqt hp) ?_ ?_⟩
      · rintro i x H2 H3 hi ⟨sm, hD⟩ ⟨rfl, hx⟩
        have hi2 : i < 2 := hi
        rcases (by omega : i = 0 ∨ i = 1) with rfl | rfl
        · cases hx
          exact ⟨rfl, _, rfl, _, rfl, y, c1, d, ws, rfl, hy.same (s1.trans sm), (s1.trans sm) _ _ hd, fun H4 s4 => ⟨_, s4 _ _ hD, by show 0 < sizeLine; decide, (sm.trans s4).own nD, upd_same⟩⟩
        · cases hx
          exact ⟨rfl, _, rfl, _, rfl, z, c2, d, ws, rfl, hz.same (s1.trans sm), (s1.trans sm) _ _ hd, fun H4 s4 => ⟨_, s4 _ _ hD, by show 1 < sizeLine; decide, (sm.trans s4).own nD, upd_same⟩⟩
      · rintro H2 ⟨sm, hD⟩
        have hD' : H2 D = some (.lst [.int (c1.worth ws), .int (c2.worth ws)]) := hD
        refine ⟨D, _, rfl, sl hD', rfl, _, _, rfl, _, _, rfl, rfl, fun dd ndd => ?_⟩
        have s3 : Same H (upd H2 dd (.dK [])) := (s1.trans sm).trans (same_upd ndd)
        have hdd : (upd H2 dd (.dK [])) dd = some (.dK []) := upd_same
        generalize upd H2 dd (.dK []) = H3 at s3 hdd ⊢
        refine ⟨_, rfl, _, rfl, _, _, rfl, rfl, _, rfl, _, rfl, _, _, rfl, rfl, by show 2 ≤ sizeLine; decide, fun l nl => ?_⟩
        have s4 := same_upd (o := .lst [.int 0, .int 1]) nl
        have hl4 : (upd H3 l (.lst [.int 0, .int 1])) l = some (.lst [.int 0, .int 1]) := upd_same
        generalize upd H3 l (.lst [.int 0, .int 1]) = H4 at s4 hl4 ⊢
        refine ⟨_, rfl, _, rfl, _, _, rfl, rfl, .inr ⟨_, rfl, l, _, _, .int (if c1.worth ws < c2.worth ws then 1 else 0), rfl, rfl, sl hl4, ?_, s4 _ _ hdd, [(Sum.inr "sum", .int (c1.worth ws + c2.worth ws)), (Sum.inr "minus", .int (c1.worth ws - c2.worth ws)), (Sum.inr "less", .int (if c1.worth ws < c2.worth ws then 1 else 0))], rfl, by show 3 ≤ 15; decide, ?_⟩⟩
        · by_cases hlt : c1.worth ws < c2.worth ws
          · simp only [decide_eq_true hlt, if_pos hlt]
            exact atI_nat (j := 1) rfl
          · simp only [decide_eq_false hlt, if_neg hlt]
            exact atI_nat (j := 0) rfl
        · have s5 : Same H (upd H4 dd (.dK (mergeK [] [(Sum.inr "sum", .int (c1.worth ws + c2.worth ws)), (Sum.inr "minus", .int (c1.worth ws - c2.worth ws)), (Sum.inr "less", .int (if c1.worth ws < c2.worth ws then 1 else 0))]))) := (s3.trans s4).own ((s1.trans sm).free ndd)
          refine ⟨_, rfl, a, _, _, _, rfl, rfl, s5.sqt h, atI_nat (j := 0) rfl, dd, .int (k.run (c1.worth ws) (c2.worth ws)), rfl, ?_, q _ s5⟩
          have g := DGet.k (k := Sum.inr k.nm) (upd_same (H := H4) (a := dd) (o := .dK (mergeK [] [(Sum.inr "sum", .int (c1.worth ws + c2.worth ws)), (Sum.inr "minus", .int (c1.worth ws - c2.worth ws)), (Sum.inr "less", .int (if c1.worth ws < c2.worth ws then 1 else 0))])))
          cases k <;> exact g
end
end T01
namespace T01
open PySem PySem.Spec PyProof.Rows L2 HX HB HG TL
section
variable {P : Program} {w : World} {K : PySem.W.Frag} {mg : Str → Option Value} {base : Heap}
theorem nm_cr {H : Hp} {n : Nat} (z : Str) (b : Bool) (h : isNameL z = b) (hl : z.length ≤ 1000) : CR K H n (.str z) b := h ▸ .str hl
theorem Up.crG {d g c : Addr} {H H' : Hp} (u : Up d g H H') (D : Dr H d g c) (D' : Dr H' d g c) {n : Nat} {v : V} {b : Bool} (h : CR K H n v b) : CR K H' n v b := by
  obtain ⟨gs, cs, r, t, h1, h2, _⟩ := D.ex
  obtain ⟨gs', cs', r', t', h1', h2', _⟩ := D'.ex
  induction h with
  | str h => exact .str h
  | int i => exact .int i
  | bl b => exact .bl b
  | non => exact .non
  | @lst n a xs h =>
    rcases h with (h | ⟨o, h⟩) | h
    · by_cases e : a = g
      · subst e; exact .lst (sl h2')
      · exact .lst (sl (u _ _ h (ne_of h h1 (by intro z; cases z)) e))
    · exact .lst (.inl (.inr ⟨o, u _ _ h (ne_of h h1 (by intro z; cases z)) (ne_of h h2 (by intro z; cases z))⟩))
    · exact .lst (.inr h)
  | @dct n a kvs h =>
    by_cases e : a = d
    · subst e; exact .dct h1'
    · exact .dct (u _ _ h e (ne_of h h2 (by intro z; cases z)))
  | len h hl => exact .len (u.sqt D h) hl
  | num h => exact .num (u.sqt D h)
  | kin h hs => exact .kin (u.sqt D h) hs
  | op h hs hy hz ih1 ih2 => exact .op (u.sqt D h) hs ih1 ih2
theorem Up.cr {d g c : Addr} {H H' : Hp} (u : Up d g H H') (D : Dr H d g c) {n : Nat} {v : V} {k : Calc} (h : CA K H n v k) (hw : ∀ x ∈ k.words, isNameL x = true) : CR K H' n v true := (u.ca D h).cr hw
def spOdd (K : PySem.W.Frag) (n : Nat) : Sp := fun vs H Q _ => ∃ (d g c : Addr) (v : V) (k : Calc), vs = [.ref d, v] ∧ Dr H d g c ∧ CA K H n v k ∧ (∀ x ∈ k.words, isNameL x = true) ∧
  ∀ (v' : V) (H' : Hp), CR K H' (n + 1) v' false → Dr H' d g c → Up d g H H' → Q v' H'
theorem ok_odd (T : Tp K mg) : ∀ n, FnOk P w K mg base CX0 (n + 1 + 1) T.f_odd T.fd_odd ["_law_draw", "_law_calc_here"] (spOdd K n) := rec_fn (c := 1) (sp := spOdd K) fun n ih => by
  refine T.D_odd.F.ok sc_odd (fun vs H Q E h => ?_) (fun cdv A outer s H vs Q E hr h => ?_)
  · obtain ⟨d, g, c, v, k, rfl, _⟩ := h
    rfl
  · obtain ⟨d, g, c, v, k, rfl, D, hc, hw, q⟩ := h
    have hu := hu_of hr
    refine ⟨_, (Evl.pss_cut (ps_if (PW.pt (pw_and (pt_val (pe_callB call_isi (by rfl) T.isinstance (by decide +kernel) (pa_cons (pv 1) (pa_cons (pe_bltn (v := .ty "tuple") (by rfl) T.tuple (by decide +kernel) rfl) pa_nil)))) (pw_and1 (pt_cmpR op_gt (pcall T.D_next (ok_next T) (hr.mono (by omega)) (by rfl) (pa_cons (pv 0) (pa_cons pe_int pa_nil))) pe_int (nomark _)))))
  (pss_cons (ps_set (i := 2) sc_odd.nd rfl (.inl rfl) (pe_op op_add pe_int (pcall T.D_next (ok_next T) (hr.mono (by omega)) (by rfl) (pa_cons (pv 0) (pa_cons pe_int pa_nil)))))
  (pss_one (ps_ret (pe_op op_catT (pe_op op_catT (pe_slice sl_tup (pv 1) po_none (po_some (pv 2))) (pe_tup (pa_cons (pcall T.D_odd ih (hr.mono (by omega)) (by rfl) (pa_cons (pv 0) (pa_cons (pe_ix ix_tup (pv 1) (pv 2) (fun _ _ => rfl)) pa_nil))) pa_nil))) (pe_slice sl_tup (pv 1) (po_some (pe_op op_add (pv 2) pe_int)) po_none)))))
  pss_nil)
  (pss_cons (ps_set (i := 3) sc_odd.nd rfl (.inl rfl) (pe_lst (pa_cons pe_bl (pa_cons pe_non (pa_cons pe_str (pa_cons pe_str (pa_cons pe_str (pa_cons pe_str (pa_cons pe_str (pa_cons (pe_lst (pa_cons pe_int (pa_cons pe_int pa_nil))) (pa_cons (pe_tup (pa_cons pe_str (pa_cons pe_int pa_nil))) (pa_cons (pe_tup (pa_cons pe_str (pa_cons pe_int (pa_cons pe_int (pa_cons pe_int pa_nil))))) (pa_cons (pe_tup (pa_cons pe_str (pa_cons pe_int (pa_cons pe_int pa_nil)))) pa_nil)))))))))))))
  (pss_cons (ps_set (i := 3) sc_odd.nd rfl (.inl rfl) (pe_op op_cat (pv 3) (pe_lst (pa_cons (pe_lst (pa_cons pe_str (pa_cons pe_int (pa_cons pe_int pa_nil)))) (pa_cons (pe_tup pa_nil) (pa_cons (pe_tup (pa_cons pe_str (pa_cons pe_int (pa_cons pe_int pa_nil)))) (pa_cons (pe_tup (pa_cons pe_int (pa_cons pe_int (pa_cons pe_int pa_nil)))) (pa_cons (pe_tup (pa_cons pe_str (pa_cons pe_str (pa_cons pe_str pa_nil)))) (pa_cons (pe_disp (pps_cons pe_str pe_int pps_nil) (by rfl) (by rfl) (fun z => by cases z) (by decide)) (pa_cons (pe_tup (pa_cons pe_str (pa_cons pe_bl (pa_cons pe_int pa_nil)))) pa_nil))))))))))
  (pss_one (ps_ret (pe_ix ix_list (pv 3) (pcall T.D_next (ok_next T) (hr.mono (by omega)) (by rfl) (pa_cons (pv 0) (pa_cons pe_int pa_nil))) (fun _ _ => rfl))))))), ?_⟩
    refine ⟨fun σ H2 => (∃ y2 y3, σ = [some (.ref d), some v, y2, y3]) ∧ Dr H2 d g c ∧ Up d g H H2, ?_, ?_⟩
    · cases hc with
      | num i => exact ⟨_, rfl, _, _, _, _, false, rfl, .ty "tuple", .base (.int _), kit_nt (.inr (.inl rfl)), false, rfl, ⟨_, _, rfl⟩, D, Up.refl H⟩
      | word x => exact ⟨_, rfl, _, _, _, _, false, rfl, .ty "tuple", .base (.str _), kit_nt (.inr (.inr rfl)), false, rfl, ⟨_, _, rfl⟩, D, Up.refl H⟩
      | op h hy hz =>
        rename_i m a k y z c1 c2
        refine ⟨_, rfl, _, _, _, _, true, rfl, .ty "tuple", ty_tup h, kit_ty (by decide +kernel), true, rfl, ?_⟩
        refine ⟨_, rfl, d, g, c, 3, rfl, D, by decide, by decide, fun r H1 r0 r1 D1 u1 => ⟨_, _, rfl, rfl, _, rfl, ite2 (fun _ => ?_) (fun _ => ⟨⟨_, _, rfl⟩, D1, u1⟩)⟩⟩
        refine ⟨_, rfl, d, g, c, 2, rfl, D1, by decide, by decide, fun r2 H2 r20 r21 D2 u2 => ⟨_, _, rfl, rfl, ?_⟩⟩
        have h2 : SqT K H2 a [.str k.nm, y, z] := u2.sqt D1 (u1.sqt D h)
        obtain ⟨j, rfl⟩ : ∃ j : Nat, r2 = (j : Int) := ⟨r2.toNat, by omega⟩
        have hj : j < 2 := by omega
        rcases (by omega : j = 0 ∨ j = 1) with rfl | rfl
        · -- the first part
          refine ⟨_, rfl, _, rfl, 1, rfl, a, _, rfl, h2, (by show ¬ (_ ∧ HT.sIx 3 3 (some ((1 : Nat) : Int)) = 3); rw [HT.sIx_nat]; simp), fun p np => ?_⟩
          have s3 := same_upd (o := .tup (cutV [.str k.nm, y, z] none (some 1))) np
          have hp3 : (upd H2 p (.tup (cutV [.str k.nm, y, z] none (some 1)))) p = some (.tup [.str k.nm]) := upd_same
          have h3 := s3.sqt h2
          have D3 := D2.same s3
          have u3 : Up d g H (upd H2 p (.tup (cutV [.str k.nm, y, z] none (some 1)))) := (u1.trans u2).trans (Up.of s3)
          generalize upd H2 p (.tup (cutV [.str k.nm, y, z] none (some 1))) = H3 at s3 hp3 h3 D3 u3 ⊢
          refine ⟨_, rfl, _, rfl, _, rfl, a, _, _, y, rfl, rfl, h3, atI_nat (j := 1) rfl, d, g, c, y, c1, rfl, D3, u3.ca D hy, (fun x hx => hw x (List.mem_append_left _ hx)), fun v' H4 cr4 D4 u4 => ⟨by show 1 ≤ sizeLine; decide, fun p2 np2 => ?_⟩⟩
          have s5 := same_upd (o := .tup [v']) np2
          refine ⟨p, p2, _, _, rfl, rfl, s5.sqt (u4.sqt D3 (stt hp3)), stt upd_same, by simp, by show 2 ≤ sizeLine; decide, (fun z => by cases z), fun _ p3 np3 => ?_⟩
          have s6 := s5.trans (same_upd (o := .tup ([.str k.nm] ++ [v'])) np3)
          have hp6 : (upd (upd H4 p2 (.tup [v'])) p3 (.tup ([.str k.nm] ++ [v']))) p3 = some (.tup [.str k.nm, v']) := upd_same
          generalize upd (upd H4 p2 (.tup [v'])) p3 (.tup ([.str k.nm] ++ [v'])) = H6 at s6 hp6 ⊢
          refine ⟨_, rfl, _, rfl, _, _, rfl, rfl, 2, rfl, a, _, rfl, s6.sqt (u4.sqt D3 h3), (by show ¬ (HT.sIx 3 0 (some ((2 : Nat) : Int)) = 0 ∧ _); rw [HT.sIx_nat]; simp), fun p4 np4 => ?_⟩
          have s7 := same_upd (o := .tup (cutV [.str k.nm, y, z] (some 2) none)) np4
          have hp7 : (upd H6 p4 (.tup (cutV [.str k.nm, y, z] (some 2) none))) p4 = some (.tup [z]) := upd_same
          refine ⟨p3, p4, _, _, rfl, rfl, s7.sqt (stt hp6), stt hp7, by simp, by show 3 ≤ sizeLine; decide, (fun z => by cases z), fun _ p5 np5 => ?_⟩
          have s8 := (s6.trans s7).trans (same_upd (o := .tup ([.str k.nm, v'] ++ [z])) np5)
          refine q _ _ (CR.op (b := false) (c := false) (stt upd_same) k.ok (cr4.same s8) (fun e => by cases e)) (D4.same s8) ((u3.trans u4).trans (Up.of s8))
        · -- the second part
          refine ⟨_, rfl, _, rfl, 2, rfl, a, _, rfl, h2, (by show ¬ (_ ∧ HT.sIx 3 3 (some ((2 : Nat) : Int)) = 3); rw [HT.sIx_nat]; simp), fun p np => ?_⟩
          have s3 := same_upd (o := .tup (cutV [.str k.nm, y, z] none (some 2))) np
          have hp3 : (upd H2 p (.tup (cutV [.str k.nm, y, z] none (some 2)))) p = some (.tup [.str k.nm, y]) := upd_same
          have h3 := s3.sqt h2
          have D3 := D2.same s3
          have u3 : Up d g H (upd H2 p (.tup (cutV [.str k.nm, y, z] none (some 2)))) := (u1.trans u2).trans (Up.of s3)
          generalize upd H2 p (.tup (cutV [.str k.nm, y, z] none (some 2))) = H3 at s3 hp3 h3 D3 u3 ⊢
          refine ⟨_, rfl, _, rfl, _, rfl, a, _, _, z, rfl, rfl, h3, atI_nat (j := 2) rfl, d, g, c, z, c2, rfl, D3, u3.ca D hz, (fun x hx => hw x (List.mem_append_right _ hx)), fun v' H4 cr4 D4 u4 => ⟨by show 1 ≤ sizeLine; decide, fun p2 np2 => ?_⟩⟩
          have s5 := same_upd (o := .tup [v']) np2
          refine ⟨p, p2, _, _, rfl, rfl, s5.sqt (u4.sqt D3 (stt hp3)), stt upd_same, by simp, by show 3 ≤ sizeLine; decide, (fun z => by cases z), fun _ p3 np3 => ?_⟩
          have s6 := s5.trans (same_upd (o := .tup ([.str k.nm, y] ++ [v'])) np3)
          have hp6 : (upd (upd H4 p2 (.tup [v'])) p3 (.tup ([.str k.nm, y] ++ [v']))) p3 = some (.tup [.str k.nm, y, v']) := upd_same
          generalize upd (upd H4 p2 (.tup [v'])) p3 (.tup ([.str k.nm, y] ++ [v'])) = H6 at s6 hp6 ⊢
          refine ⟨_, rfl, _, rfl, _, _, rfl, rfl, 3, rfl, a, _, rfl, s6.sqt (u4.sqt D3 h3), (by show ¬ (HT.sIx 3 0 (some ((3 : Nat) : Int)) = 0 ∧ _); rw [HT.sIx_nat]; simp), fun p4 np4 => ?_⟩
          have s7 := same_upd (o := .tup (cutV [.str k.nm, y, z] (some 3) none)) np4
          have hp7 : (upd H6 p4 (.tup (cutV [.str k.nm, y, z] (some 3) none))) p4 = some (.tup []) := upd_same
          refine ⟨p3, p4, _, _, rfl, rfl, s7.sqt (stt hp6), stt hp7, by simp, by show 3 ≤ sizeLine; decide, (fun _ => ?_), (fun z => absurd rfl z)⟩
          have s8 := s6.trans s7
          have cy : CR K _ (m + 1) y true := CR.mono (((u3.trans u4).trans (Up.of s8)).cr D hy fun x hx => hw x (List.mem_append_left _ hx)) (Nat.le_succ m)
          exact q _ _ (CR.op (b := true) (c := false) (stt (s7 _ _ hp6)) k.ok cy (fun _ => cr4.same s8)) (D4.same s8) ((u3.trans u4).trans (Up.of s8))
    · rintro σ H2 ⟨⟨y2, y3, rfl⟩, D2, u2⟩
      refine ⟨by show 2 ≤ sizeLine; decide, fun p1 np1 => ?_⟩
      have s3 := same_upd (o := HO.lst [.int 1, .int 2]) np1
      have ep1 : (upd H2 p1 (HO.lst [.int 1, .int 2])) p1 = some (HO.lst [.int 1, .int 2]) := upd_same
      generalize upd H2 p1 (HO.lst [.int 1, .int 2]) = G3 at s3 ep1 ⊢
      replace D2 := D2.same s3
      replace u2 : Up d g H G3 := u2.trans (Up.of s3)
      have c1 : CR K G3 1 (.ref p1) false := .lst (sl ep1)
      refine ⟨by show 2 ≤ sizeLine; decide, fun p2 np2 => ?_⟩
      have s4 := same_upd (o := HO.tup [.str "sum", .int 1]) np2
      have ep2 : (upd G3 p2 (HO.tup [.str "sum", .int 1])) p2 = some (HO.tup [.str "sum", .int 1]) := upd_same
      generalize upd G3 p2 (HO.tup [.str "sum", .int 1]) = G4 at s4 ep2 ⊢
      replace c1 := c1.same s4
      replace D2 := D2.same s4
      replace u2 : Up d g H G4 := u2.trans (Up.of s4)
      have c2 : CR K G4 1 (.ref p2) false := .len (stt ep2) (by decide)
      refine ⟨by show 4 ≤ sizeLine; decide, fun p3 np3 => ?_⟩
      have s5 := same_upd (o := HO.tup [.str "sum", .int 1, .int 2, .int 3]) np3
      have ep3 : (upd G4 p3 (HO.tup [.str "sum", .int 1, .int 2, .int 3])) p3 = some (HO.tup [.str "sum", .int 1, .int 2, .int 3]) := upd_same
      generalize upd G4 p3 (HO.tup [.str "sum", .int 1, .int 2, .int 3]) = G5 at s5 ep3 ⊢
      replace c1 := c1.same s5
      replace c2 := c2.same s5
      replace D2 := D2.same s5
      replace u2 : Up d g H G5 := u2.trans (Up.of s5)
      have c3 : CR K G5 1 (.ref p3) false := .len (stt ep3) (by decide)
      refine ⟨by show 3 ≤ sizeLine; decide, fun p4 np4 => ?_⟩
      have s6 := same_upd (o := HO.tup [.str "times", .int 1, .int 2]) np4
      have ep4 : (upd G5 p4 (HO.tup [.str "times", .int 1, .int 2])) p4 = some (HO.tup [.str "times", .int 1, .int 2]) := upd_same
      generalize upd G5 p4 (HO.tup [.str "times", .int 1, .int 2]) = G6 at s6 ep4 ⊢
      replace c1 := c1.same s6
      replace c2 := c2.same s6
      replace c3 := c3.same s6
      replace D2 := D2.same s6
      replace u2 : Up d g H G6 := u2.trans (Up.of s6)
      have c4 : CR K G6 1 (.ref p4) false := .kin (stt ep4) (by decide +kernel)
      refine ⟨by show 11 ≤ sizeLine; decide, fun q1 nq1 => ?_⟩
      have s7 := same_upd (o := HO.lst [.bl true, .non, .str "", .str "abcdefg", .str "a1", .str "A", .str "a b", .ref p1, .ref p2, .ref p3, .ref p4]) nq1
      have eq1 : (upd G6 q1 (HO.lst [.bl true, .non, .str "", .str "abcdefg", .str "a1", .str "A", .str "a b", .ref p1, .ref p2, .ref p3, .ref p4])) q1 = some (HO.lst [.bl true, .non, .str "", .str "abcdefg", .str "a1", .str "A", .str "a b", .ref p1, .ref p2, .ref p3, .ref p4]) := upd_same
      generalize upd G6 q1 (HO.lst [.bl true, .non, .str "", .str "abcdefg", .str "a1", .str "A", .str "a b", .ref p1, .ref p2, .ref p3, .ref p4]) = G7 at s7 eq1 ⊢
      replace c1 := c1.same s7
      replace c2 := c2.same s7
      replace c3 := c3.same s7
      replace c4 := c4.same s7
      replace D2 := D2.same s7
      replace u2 : Up d g H G7 := u2.trans (Up.of s7)
      refine ⟨_, rfl, ?_⟩
      refine ⟨by show 3 ≤ sizeLine; decide, fun p6 np6 => ?_⟩
      have s8 := same_upd (o := HO.lst [.str "sum", .int 1, .int 2]) np6
      have ep6 : (upd G7 p6 (HO.lst [.str "sum", .int 1, .int 2])) p6 = some (HO.lst [.str "sum", .int 1, .int 2]) := upd_same
      generalize upd G7 p6 (HO.lst [.str "sum", .int 1, .int 2]) = G8 at s8 ep6 ⊢
      replace c1 := c1.same s8
      replace c2 := c2.same s8
      replace c3 := c3.same s8
      replace c4 := c4.same s8
      replace D2 := D2.same s8
      replace u2 : Up d g H G8 := u2.trans (Up.of s8)
      have c6 : CR K G8 1 (.ref p6) false := .lst (sl ep6)
      replace eq1 := s8 _ _ eq1
      refine ⟨by show 0 ≤ sizeLine; decide, fun p7 np7 => ?_⟩
      have s9 := same_upd (o := HO.tup []) np7
      have ep7 : (upd G8 p7 (HO.tup [])) p7 = some (HO.tup []) := upd_same
      generalize upd G8 p7 (HO.tup []) = G9 at s9 ep7 ⊢
      replace c1 := c1.same s9
      replace c2 := c2.same s9
      replace c3 := c3.same s9
      replace c4 := c4.same s9
      replace c6 := c6.same s9
      replace D2 := D2.same s9
      replace u2 : Up d g H G9 := u2.trans (Up.of s9)
      have c7 : CR K G9 1 (.ref p7) false := .len (stt ep7) (by decide)
      replace eq1 := s9 _ _ eq1
      refine ⟨by show 3 ≤ sizeLine; decide, fun p8 np8 => ?_⟩
      have s10 := same_upd (o := HO.tup [.str "Sum", .int 1, .int 2]) np8
      have ep8 : (upd G9 p8 (HO.tup [.str "Sum", .int 1, .int 2])) p8 = some (HO.tup [.str "Sum", .int 1, .int 2]) := upd_same
      generalize upd G9 p8 (HO.tup [.str "Sum", .int 1, .int 2]) = G10 at s10 ep8 ⊢
      replace c1 := c1.same s10
      replace c2 := c2.same s10
      replace c3 := c3.same s10
      replace c4 := c4.same s10
      replace c6 := c6.same s10
      replace c7 := c7.same s10
      replace D2 := D2.same s10
      replace u2 : Up d g H G10 := u2.trans (Up.of s10)
      have c8 : CR K G10 1 (.ref p8) false := .kin (stt ep8) (by decide +kernel)
      replace eq1 := s10 _ _ eq1
      refine ⟨by show 3 ≤ sizeLine; decide, fun p9 np9 => ?_⟩
      have s11 := same_upd (o := HO.tup [.int 5, .int 1, .int 2]) np9
      have ep9 : (upd G10 p9 (HO.tup [.int 5, .int 1, .int 2])) p9 = some (HO.tup [.int 5, .int 1, .int 2]) := upd_same
      generalize upd G10 p9 (HO.tup [.int 5, .int 1, .int 2]) = G11 at s11 ep9 ⊢
      replace c1 := c1.same s11
      replace c2 := c2.same s11
      replace c3 := c3.same s11
      replace c4 := c4.same s11
      replace c6 := c6.same s11
      replace c7 := c7.same s11
      replace c8 := c8.same s11
      replace D2 := D2.same s11
      replace u2 : Up d g H G11 := u2.trans (Up.of s11)
      have c9 : CR K G11 1 (.ref p9) false := .num (stt ep9)
      replace eq1 := s11 _ _ eq1
      refine ⟨by show 3 ≤ sizeLine; decide, fun p10 np10 => ?_⟩
      have s12 := same_upd (o := HO.tup [.str "sum", .str "a", .str "B"]) np10
      have ep10 : (upd G11 p10 (HO.tup [.str "sum", .str "a", .str "B"])) p10 = some (HO.tup [.str "sum", .str "a", .str "B"]) := upd_same
      generalize upd G11 p10 (HO.tup [.str "sum", .str "a", .str "B"]) = G12 at s12 ep10 ⊢
      replace c1 := c1.same s12
      replace c2 := c2.same s12
      replace c3 := c3.same s12
      replace c4 := c4.same s12
      replace c6 := c6.same s12
      replace c7 := c7.same s12
      replace c8 := c8.same s12
      replace c9 := c9.same s12
      replace D2 := D2.same s12
      replace u2 : Up d g H G12 := u2.trans (Up.of s12)
      have c10 : CR K G12 1 (.ref p10) false := CR.op (n := 0) (b := true) (c := false) (stt ep10) (.inl rfl) (nm_cr "a" true (by decide +kernel) (by decide)) (fun _ => nm_cr "B" false (by decide +kernel) (by decide))
      replace eq1 := s12 _ _ eq1
      refine fun p11 np11 => ?_
      have s13 := same_upd (o := HO.dK []) np11
      have d11 : (upd G12 p11 (HO.dK [])) p11 = some (HO.dK []) := upd_same
      have s14 : Same G12 (upd (upd G12 p11 (HO.dK [])) p11 (HO.dK (mergeK [] [((Sum.inr "a" : Key), V.int 1)]))) := s13.own np11
      have ep11 : (upd (upd G12 p11 (HO.dK [])) p11 (HO.dK (mergeK [] [((Sum.inr "a" : Key), V.int 1)]))) p11 = some (HO.dK [((Sum.inr "a" : Key), V.int 1)]) := upd_same
      refine ⟨d11, [((Sum.inr "a" : Key), V.int 1)], rfl, by show 1 ≤ 15; decide, ?_⟩
      generalize upd (upd G12 p11 (HO.dK [])) p11 (HO.dK (mergeK [] [((Sum.inr "a" : Key), V.int 1)])) = G14 at s14 ep11 ⊢
      replace c1 := c1.same s14
      replace c2 := c2.same s14
      replace c3 := c3.same s14
      replace c4 := c4.same s14
      replace c6 := c6.same s14
      replace c7 := c7.same s14
      replace c8 := c8.same s14
      replace c9 := c9.same s14
      replace c10 := c10.same s14
      replace D2 := D2.same s14
      replace u2 : Up d g H G14 := u2.trans (Up.of s14)
      replace eq1 := s14 _ _ eq1
      have c11 : CR K G14 1 (.ref p11) false := .dct ep11
      refine ⟨by show 3 ≤ sizeLine; decide, fun p12 np12 => ?_⟩
      have s15 := same_upd (o := HO.tup [.str "less", .bl false, .int 1]) np12
      have ep12 : (upd G14 p12 (HO.tup [.str "less", .bl false, .int 1])) p12 = some (HO.tup [.str "less", .bl false, .int 1]) := upd_same
      generalize upd G14 p12 (HO.tup [.str "less", .bl false, .int 1]) = G15 at s15 ep12 ⊢
      replace c1 := c1.same s15
      replace c2 := c2.same s15
      replace c3 := c3.same s15
      replace c4 := c4.same s15
      replace c6 := c6.same s15
      replace c7 := c7.same s15
      replace c8 := c8.same s15
      replace c9 := c9.same s15
      replace c10 := c10.same s15
      replace c11 := c11.same s15
      replace D2 := D2.same s15
      replace u2 : Up d g H G15 := u2.trans (Up.of s15)
      have c12 : CR K G15 1 (.ref p12) false := CR.op (n := 0) (b := false) (c := false) (stt ep12) (.inr (.inr rfl)) (.bl false) (fun e => by cases e)
      replace eq1 := s15 _ _ eq1
      refine ⟨by show 7 ≤ sizeLine; decide, fun q2 nq2 => ?_⟩
      have s16 := same_upd (o := HO.lst [.ref p6, .ref p7, .ref p8, .ref p9, .ref p10, .ref p11, .ref p12]) nq2
      have eq2 : (upd G15 q2 (HO.lst [.ref p6, .ref p7, .ref p8, .ref p9, .ref p10, .ref p11, .ref p12])) q2 = some (HO.lst [.ref p6, .ref p7, .ref p8, .ref p9, .ref p10, .ref p11, .ref p12]) := upd_same
      generalize upd G15 q2 (HO.lst [.ref p6, .ref p7, .ref p8, .ref p9, .ref p10, .ref p11, .ref p12]) = G16 at s16 eq2 ⊢
      replace c1 := c1.same s16
      replace c2 := c2.same s16
      replace c3 := c3.same s16
      replace c4 := c4.same s16
      replace c6 := c6.same s16
      replace c7 := c7.same s16
      replace c8 := c8.same s16
      replace c9 := c9.same s16
      replace c10 := c10.same s16
      replace c11 := c11.same s16
      replace c12 := c12.same s16
      replace D2 := D2.same s16
      replace u2 : Up d g H G16 := u2.trans (Up.of s16)
      replace eq1 := s16 _ _ eq1
      refine ⟨q1, q2, _, _, rfl, rfl, eq1, eq2, by show 18 ≤ sizeLine; decide, fun O nO => ?_⟩
      have OD := D2.apart nO
      have s17 := same_upd (o := HO.lst ([.bl true, .non, .str "", .str "abcdefg", .str "a1", .str "A", .str "a b", .ref p1, .ref p2, .ref p3, .ref p4] ++ [.ref p6, .ref p7, .ref p8, .ref p9, .ref p10, .ref p11, .ref p12])) nO
      have eO : (upd G16 O (HO.lst ([.bl true, .non, .str "", .str "abcdefg", .str "a1", .str "A", .str "a b", .ref p1, .ref p2, .ref p3, .ref p4] ++ [.ref p6, .ref p7, .ref p8, .ref p9, .ref p10, .ref p11, .ref p12]))) O = some (HO.lst ([.bl true, .non, .str "", .str "abcdefg", .str "a1", .str "A", .str "a b", .ref p1, .ref p2, .ref p3, .ref p4] ++ [.ref p6, .ref p7, .ref p8, .ref p9, .ref p10, .ref p11, .ref p12])) := upd_same
      generalize upd G16 O (HO.lst ([.bl true, .non, .str "", .str "abcdefg", .str "a1", .str "A", .str "a b", .ref p1, .ref p2, .ref p3, .ref p4] ++ [.ref p6, .ref p7, .ref p8, .ref p9, .ref p10, .ref p11, .ref p12])) = G17 at s17 eO ⊢
      replace c1 := c1.same s17
      replace c2 := c2.same s17
      replace c3 := c3.same s17
      replace c4 := c4.same s17
      replace c6 := c6.same s17
      replace c7 := c7.same s17
      replace c8 := c8.same s17
      replace c9 := c9.same s17
      replace c10 := c10.same s17
      replace c11 := c11.same s17
      replace c12 := c12.same s17
      replace D2 := D2.same s17
      replace u2 : Up d g H G17 := u2.trans (Up.of s17)
      have all : ∀ v ∈ ([.bl true, .non, .str "", .str "abcdefg", .str "a1", .str "A", .str "a b", .ref p1, .ref p2, .ref p3, .ref p4] ++ [.ref p6, .ref p7, .ref p8, .ref p9, .ref p10, .ref p11, .ref p12] : List V), CR K G17 1 v false := by
        intro v hv
        simp only [List.cons_append, List.nil_append, List.mem_cons, List.not_mem_nil, or_false] at hv
        rcases hv with rfl | rfl | rfl | rfl | rfl | rfl | rfl | rfl | rfl | rfl | rfl | rfl | rfl | rfl | rfl | rfl | rfl | rfl
        · exact .bl true
        · exact .non
        · exact nm_cr "" false (by decide +kernel) (by decide)
        · exact nm_cr "abcdefg" false (by decide +kernel) (by decide)
        · exact nm_cr "a1" false (by decide +kernel) (by decide)
        · exact nm_cr "A" false (by decide +kernel) (by decide)
        · exact nm_cr "a b" false (by decide +kernel) (by decide)
        · exact c1
        · exact c2
        · exact c3
        · exact c4
        · exact c6
        · exact c7
        · exact c8
        · exact c9
        · exact c10
        · exact c11
        · exact c12
      have len18 : ([.bl true, .non, .str "", .str "abcdefg", .str "a1", .str "A", .str "a b", .ref p1, .ref p2, .ref p3, .ref p4] ++ [.ref p6, .ref p7, .ref p8, .ref p9, .ref p10, .ref p11, .ref p12] : List V).length = 18 := rfl
      generalize ([.bl true, .non, .str "", .str "abcdefg", .str "a1", .str "A", .str "a b", .ref p1, .ref p2, .ref p3, .ref p4] ++ [.ref p6, .ref p7, .ref p8, .ref p9, .ref p10, .ref p11, .ref p12] : List V) = items at eO all len18

      refine ⟨_, rfl, _, rfl, d, g, c, 18, rfl, D2, by decide, by decide, fun r H9 r0 r1 D9 u9 => ?_⟩
      obtain ⟨j, rfl⟩ : ∃ j : Nat, r = (j : Int) := ⟨r.toNat, by omega⟩
      have hj : j < items.length := by rw [len18]; omega
      refine ⟨O, _, _, items[j], rfl, rfl, sl (u9 _ _ eO OD.1 OD.2.1), atI_nat (List.getElem?_eq_getElem hj), ?_⟩
      exact q _ _ ((u9.crG D2 D9 (all _ (List.getElem_mem hj))).mono (by omega)) D9 (u2.trans u9)
end
end T01
namespace T01
open PySem PySem.Spec PyProof.Rows L2 HX HB HG TL
/-! ### a name with a sign put in -/
theorem merge_new : ∀ (more acc : List (Key × V)), ((acc ++ more).map (·.1)).Nodup → mergeK acc more = acc ++ more
  | [], acc, _ => by rw [List.append_nil]; rfl
  | (k, v) :: more, acc, h => by
    have hk : valV acc k = none := by
      unfold valV
      cases e : acc.find? fun kv => decide (kv.1 = k) with
      | none => rfl
      | some p =>
        have hp := List.mem_of_find?_eq_some e
        have he := List.find?_some e
        rw [List.map_append, List.map_cons, List.nodup_append] at h
        exact absurd (of_decide_eq_true he) (h.2.2 _ (List.mem_map.mpr ⟨p, hp, rfl⟩) _ (List.mem_cons_self ..))
    show mergeK (putK acc k v) more = _
    rw [putK_new v hk, merge_new more (acc ++ [(k, v)]) (by rwa [List.append_assoc]), List.append_assoc]
    rfl
theorem dw_nodup {ks : List (Str × Int)} (h : (ks.map (·.1)).Nodup) : ((dw ks).map (·.1)).Nodup := by
  unfold dw
  rw [List.map_map]
  have e : (((fun kv : Key × V => kv.1) ∘ fun p : Str × Int => ((Sum.inr p.1 : Key), V.int p.2)) : Str × Int → Key) = (fun s : Str => (Sum.inr s : Key)) ∘ fun p => p.1 := rfl
  rw [e, ← List.map_map]
  exact List.Pairwise.map _ (fun a b hab z => hab (Sum.inr.inj z)) h
theorem nodup_fst : ∀ {ks : List (Str × Int)}, (ks.map (·.1)).Nodup → ∀ {p q : Str × Int}, p ∈ ks → q ∈ ks → p.1 = q.1 → p = q
  | [], _, p, _, hp, _, _ => by cases hp
  | a :: l, h, p, q, hp, hq, he => by
    rw [List.map_cons, List.nodup_cons] at h
    rcases List.mem_cons.mp hp with e1 | hp' <;> rcases List.mem_cons.mp hq with e2 | hq'
    · rw [e1, e2]
    · subst e1; exact absurd (List.mem_map.mpr ⟨q, hq', he.symm⟩) h.1
    · subst e2; exact absurd (List.mem_map.mpr ⟨p, hp', he⟩) h.1
    · exact nodup_fst h.2 hp' hq' he
theorem dw_val {ks : List (Str × Int)} (h : (ks.map (·.1)).Nodup) : ∀ p ∈ dw ks, valV (dw ks) p.1 = some p.2 ∧ flatB p.2 = true := by
  intro p hp
  obtain ⟨q, hq, rfl⟩ := List.mem_map.mp hp
  refine ⟨?_, rfl⟩
  show valV (dw ks) (Sum.inr q.1 : Key) = some (.int q.2)
  rw [look_val]
  unfold look
  cases e : ks.find? fun p => decide (p.1 = q.1) with
  | none => exact absurd (List.find?_eq_none.mp e q hq) (by simp)
  | some p =>
    have hp := List.mem_of_find?_eq_some e
    have he : p.1 = q.1 := by have := List.find?_some e; simpa using this
    have : p = q := nodup_fst h hp hq he
    subst this
    rfl
def signs : Str := "A1 _-.z"
def put (z : Str) (i c : Nat) : Str := cutS z none (some (i : Int)) ++ sg c ++ cutS z (some (i : Int)) none
theorem cutS_lo (z : Str) (i : Nat) : (cutS z none (some (i : Int))).cps.toList = z.cps.toList.take i := by
  unfold cutS
  rw [HT.sIx_none, HT.sIx_nat]
  simp only [List.drop_zero, Nat.sub_zero]
  apply List.ext_getElem?
  intro j
  simp only [List.getElem?_take, show z.length = z.cps.toList.length from (by simp [Str.length])]
  by_cases h : j < z.cps.toList.length
  · have : j < min i z.cps.toList.length ↔ j < i := by omega
    simp only [this]
  · rw [List.getElem?_eq_none (by omega)]
    split <;> split <;> rfl
theorem cutS_hi (z : Str) (i : Nat) : (cutS z (some (i : Int)) none).cps.toList = z.cps.toList.drop i := by
  unfold cutS
  rw [HT.sIx_none, HT.sIx_nat]
  simp only [show z.length = z.cps.toList.length from (by simp [Str.length])]
  rw [List.take_of_length_le (by rw [List.length_drop]; omega)]
  by_cases h : i ≤ z.cps.toList.length
  · rw [Nat.min_eq_left h]
  · rw [Nat.min_eq_right (by omega), List.drop_length, List.drop_eq_nil_of_le (by omega)]
theorem put_cps (z : Str) (i c : Nat) : (put z i c).cps.toList = z.cps.toList.take i ++ [c] ++ z.cps.toList.drop i := by
  show ((cutS z none (some (i : Int))).cps ++ (sg c).cps ++ (cutS z (some (i : Int)) none).cps).toList = _
  rw [Array.toList_append, Array.toList_append, cutS_lo, cutS_hi]
  rfl
theorem put_len (z : Str) (i c : Nat) : (put z i c).length = z.length + 1 := by
  have := congrArg List.length (put_cps z i c)
  simp only [List.length_append, List.length_take, List.length_drop, List.length_singleton] at this
  show (put z i c).cps.size = z.cps.size + 1
  simp only [Array.length_toList] at this
  omega
theorem nm_parts {z : Str} (h : isNameL z = true) : 1 ≤ z.length ∧ z.length ≤ 6 ∧ z.cps.toList.all isLow = true := by
  unfold isNameL at h
  simp only [Bool.and_eq_true, decide_eq_true_eq] at h
  exact ⟨h.1.1, h.1.2, h.2⟩
theorem put_name {z : Str} (h : isNameL z = true) (i c : Nat) : isNameL (put z i c) = (isLow c && decide (z.length < 6)) := by
  obtain ⟨h1, h2, h3⟩ := nm_parts h
  have a : (put z i c).cps.toList.all isLow = isLow c := by
    rw [put_cps, List.all_append, List.all_append, List.all_eq_true.mpr (fun x hx => List.all_eq_true.mp h3 x (List.mem_of_mem_take hx)), List.all_eq_true.mpr (fun x hx => List.all_eq_true.mp h3 x (List.mem_of_mem_drop hx))]
    simp
  unfold isNameL
  rw [a, put_len, Bool.and_comm, decide_eq_true (show 1 ≤ z.length + 1 by omega), Bool.true_and]
  rfl
theorem seven_name {z : Str} (h : isNameL z = true) : isNameL (times z 7) = false := by
  obtain ⟨h1, h2, h3⟩ := nm_parts h
  unfold isNameL
  rw [times_len, decide_eq_false (show ¬ 7 * z.length ≤ 6 by omega), Bool.and_false, Bool.false_and]
theorem sign_low : ∀ i : Nat, i < 7 → ∃ c, signs.cps.toList[i]? = some c ∧ isLow c = decide (sg c = "z") := by
  intro i hi
  refine ⟨_, List.getElem?_eq_getElem (by show i < 7; exact hi), ?_⟩
  revert i
  decide +kernel
def three (b : Bool) : PyData := .list [.bool true, .bool b, .bool false]
theorem three_ok (b : Bool) : isDisplay (three b) = true ∧ (three b).showable = true ∧ (three b).hasDict = false ∧ (three b).depth ≤ 60 ∧ (three b).shown.length ≤ sizeLine := by
  cases b <;> decide +kernel
end T01
namespace T01
open PySem PySem.Spec PyProof.Rows L2 HX HB HG TL
theorem dw_app (a b : List (Str × Int)) : dw (a ++ b) = dw a ++ dw b := List.map_append ..
theorem paired_imp {α β : Type} {F G : α → β → Prop} (h : ∀ a b, F a b → G a b) : ∀ {l : List α} {m : List β}, Paired F l m → Paired G l m
  | _, _, .nil => .nil
  | _, _, .cons x t => .cons (h _ _ x) (paired_imp h t)
theorem sqt_set {K : PySem.W.Frag} {H : Hp} {L p : Addr} {xs ys zs : List V} (hL : H L = some (.lst xs)) (h : SqT K H p ys) : SqT K (upd H L (.lst zs)) p ys := by
  rcases h with (h | ⟨o, h⟩) | h
  · exact .inl (.inl (by rw [upd_ne (ne_of h hL (by intro z; cases z))]; exact h))
  · exact .inl (.inr ⟨o, by rw [upd_ne (ne_of h hL (by intro z; cases z))]; exact h⟩)
  · exact .inr h
section
variable {P : Program} {w : World} {K : PySem.W.Frag} {mg : Str → Option Value} {base : Heap}
def spLaw (K : PySem.W.Frag) : Sp := fun vs H Q _ => ∃ (a : Addr) (ns : List Int), vs = [.ref a] ∧ SqL K H a (ns.map V.int) ∧ ns.length ≤ 63 ∧ ∀ H', Q (.bl true) H'
theorem ok_law {f : Addr} {fd : FuncData} (F : Fun K "law" "law" s_law f fd) (T : Tp K mg) : FnG P w K mg base CX0 8 f fd ["_law_script"] (spLaw K) := by
  refine okGn F sc_law (fun vs H Q E h => ?_) (fun cdv A outer s H vs Q E sh hr h => ?_)
  · obtain ⟨a, ns, rfl, _⟩ := h
    rfl
  · obtain ⟨a, ns, rfl, hS, hl, q⟩ := h
    have hu := hu_of hr
    refine ⟨_, (pss_cons (ps_set (i := 1) sc_law.nd rfl (.inr rfl) (pcall T.D_begun (ok_begun T) (hr.mono (by decide)) (by rfl) (pa_cons (pv 0) pa_nil)))
  (pss_cons (ps_for PassesOwn.never rfl (pi_range1 (by rfl) T.range (pa_cons pe_int pa_nil)) (pg_name (i := 2) sc_law.nd rfl (.inl rfl))
  (pss_cons (ps_set (i := 3) sc_law.nd rfl (.inl rfl) (pe_disp (pps_cons pe_str (pcall T.D_names (ok_names T) (hr.mono (by decide)) (by rfl) (pa_cons (pv 1) (pa_cons pe_int pa_nil))) pps_nil) (by rfl) (by rfl) (fun z => by cases z) (by decide)))
  (pss_cons (ps_set (i := 4) sc_law.nd rfl (.inl rfl) (pcall T.D_lcalc (ok_lcalc T 3) (hr.mono (by decide)) (by rfl) (pa_cons (pv 1) (pa_cons (pv 3) (pa_cons pe_int pa_nil)))))
  (pss_cons (ps_set (i := 5) sc_law.nd rfl (.inl rfl) (pe_callTy (call_dictP rfl) (by rfl) T.dict (by decide +kernel) (pa_cons (pe_lc (own := [("_law_name_here", 7)]) (g := gName 7) (by rfl) sc_law.nd (pi_list (pe_dget hu (pv 3) pe_str (fun _ _ => rfl))) (blkOk_by (own := [("_law_name_here", 7)]) (N := ["_law_script", "_law_draw", "_law_turn", "_law_play", "_law_calc_here", "_law_words", "_law_kept", "_law_name_here", "_law_at", "_law_sign", "_law_other", "_law_due"]) (sc := defScope s_law) (by decide +kernel)) (fun _ _ _ _ _ => (pg_name (i := 7) sc_law.nd rfl (.inl rfl))) (fun _ _ _ _ _ => (pts_one (pt_cmpR op_gt (pcall T.D_next (ok_next T) (hr.mono (by decide)) (by rfl) (pa_cons (pv 1) (pa_cons pe_int pa_nil))) pe_int (nomark _)))) (fun _ _ _ _ _ => (pe_tup (pa_cons (pv 7) (pa_cons (pe_op op_sub (pcall T.D_next (ok_next T) (hr.mono (by decide)) (by rfl) (pa_cons (pv 1) (pa_cons (pe_op op_pow pe_int pe_int) pa_nil))) pe_int) pa_nil))))) pa_nil)))
  (pss_cons (ps_set (i := 6) sc_law.nd rfl (.inl rfl) (pe_callTy call_dictC (by rfl) T.dict (by decide +kernel) (pa_cons (pv 5) pa_nil)))
  (pss_cons (ps_if (PW.pt (pw_or (pt_cmpR op_notBl (pcall T.D_iscalc (ok_iscalc T 4) (hr.mono (by decide)) (by rfl) (pa_cons (pv 4) pa_nil)) pe_bl (nomark _)) (pw_or (pt_cmpR op_ne (pcall T.D_worth (ok_worth T 3) (hr.mono (by decide)) (by rfl) (pa_cons (pv 4) (pa_cons (pv 5) pa_nil))) (pcall T.D_lworth (ok_lworth T 3) (hr.mono (by decide)) (by rfl) (pa_cons (pv 4) (pa_cons (pv 5) pa_nil))) (nomark _)) (pw_or1 (pt_cmpR (op_ne_dictA hr.units0) (pv 5) (pv 6) (nomark _))))))
  (pss_one (ps_ret pe_bl))
  pss_nil)
  (pss_cons (ps_if (pt_cmpR op_notBl (pcall T.D_iscalc (ok_iscalc T 4) (hr.mono (by decide)) (by rfl) (pa_cons (pcall T.D_odd (ok_odd T 3) (hr.mono (by decide)) (by rfl) (pa_cons (pv 1) (pa_cons (pv 4) pa_nil))) pa_nil)) pe_bl (nomark _))
  (pss_one (ps_ret pe_bl))
  pss_nil)
  (pss_cons (ps_par (i := 7) (j := 8) rfl sc_law.nd rfl rfl (by decide) rfl rfl (pa_cons (pe_ix ix_list (pe_dget hu (pv 3) pe_str (fun _ _ => rfl)) pe_int (fun _ _ => rfl)) (pa_cons (pcall T.D_next (ok_next T) (hr.mono (by decide)) (by rfl) (pa_cons (pv 1) (pa_cons pe_int pa_nil))) pa_nil)) (by rfl))
  (pss_cons (ps_set (i := 9) sc_law.nd rfl (.inl rfl) (pe_ix ix_str pe_str (pcall T.D_next (ok_next T) (hr.mono (by decide)) (by rfl) (pa_cons (pv 1) (pa_cons pe_int pa_nil))) (fun _ _ => rfl)))
  (pss_cons (ps_set (i := 10) sc_law.nd rfl (.inl rfl) (pe_op op_add_str (pe_op op_add_str (pe_slice sl_str (pv 7) po_none (po_some (pv 8))) (pv 9)) (pe_slice sl_str (pv 7) (po_some (pv 8)) po_none)))
  (pss_cons (ps_set (i := 11) sc_law.nd rfl (.inl rfl) (pe_and (pe_cmpR op_eq (pv 9) pe_str (nomark _)) (pe_one (pe_cmpR op_lt (pe_callB call_len_str (by rfl) T.len PySem.boot_len (pa_cons (pv 10) pa_nil)) pe_int (nomark _)))))
  (pss_cons (ps_if (pt_cmpR op_ne (pe_callB (call_reprD sh hr.units) (by rfl) T.repr (by decide +kernel) (pa_cons (pe_lst (pa_cons (pcall T.D_isname (ok_isname T) (hr.mono (by decide)) (by rfl) (pa_cons (pv 7) pa_nil)) (pa_cons (pcall T.D_isname (ok_isname T) (hr.mono (by decide)) (by rfl) (pa_cons (pv 10) pa_nil)) (pa_cons (pcall T.D_isname (ok_isname T) (hr.mono (by decide)) (by rfl) (pa_cons (pe_op op_times (pv 7) pe_int) pa_nil)) pa_nil)))) pa_nil)) (pe_callB (call_reprD sh hr.units) (by rfl) T.repr (by decide +kernel) (pa_cons (pe_lst (pa_cons pe_bl (pa_cons (pv 11) (pa_cons pe_bl pa_nil)))) pa_nil)) (nomark _))
  (pss_one (ps_ret pe_bl))
  pss_nil)
  (pss_one (ps_if (pt_cmpR op_notBl (pcall T.D_isname (ok_isname T) (hr.mono (by decide)) (by rfl) (pa_cons (pe_ix ix_list (pe_lst (pa_cons pe_non (pa_cons pe_int (pa_cons (pe_tup (pa_cons (pv 7) pa_nil)) (pa_cons (pe_lst (pa_cons (pv 7) pa_nil)) (pa_cons pe_str (pa_cons pe_bl pa_nil))))))) (pcall T.D_next (ok_next T) (hr.mono (by decide)) (by rfl) (pa_cons (pv 1) (pa_cons pe_int pa_nil))) (fun _ _ => rfl)) pa_nil)) pe_bl (nomark _))
  (pss_one (ps_ret pe_bl))
  pss_nil))))))))))))))
  (pss_one (ps_ret pe_bl)))), ?_⟩
    refine ⟨_, rfl, a, ns, rfl, hS, hl, fun d g c H1 s1 nd ng D1 => ?_⟩
    refine ⟨4, rfl, by decide, by decide, for_range (lo := 0) (n := ((4 : Int) - 0).toNat) (fun i σ H2 => (∃ y2 y3 y4 y5 y6 y7 y8 y9 y10 y11, σ = [some (.ref a), some (.ref d), y2, y3, y4, y5, y6, y7, y8, y9, y10, y11]) ∧ Dr H2 d g c) ?_ ?_ ?_⟩
    · exact ⟨⟨_, _, _, _, _, _, _, _, _, _, rfl⟩, D1⟩
    · rintro i σ H2 hi ⟨⟨y2, y3, y4, y5, y6, y7, y8, y9, y10, y11, rfl⟩, D2⟩
      -- the play
      refine fun pl npl => ?_
      have plD := D2.apart npl
      have s3 := same_upd (o := .dK []) npl
      have hpl : (upd H2 pl (.dK [])) pl = some (.dK []) := upd_same
      have D3 := D2.same s3
      have u3 : Up d g H2 (upd H2 pl (.dK [])) := Up.of s3
      generalize upd H2 pl (.dK []) = H3 at s3 hpl D3 u3 ⊢
      refine ⟨_, rfl, d, g, c, 4, rfl, by decide, D3, fun W zs H4 nW hW four nms nd4 D4 u4 => ?_⟩
      have WD := D3.apart nW
      have hpl4 := u4 _ _ hpl plD.1 plD.2.1
      have Wpl : W ≠ pl := (ne_of_none hpl nW).symm
      refine ⟨hpl4, [(Sum.inr "words", .ref W)], rfl, by show 1 ≤ 15; decide, ?_⟩
      have D5 : Dr (upd H4 pl (.dK [(Sum.inr "words", .ref W)])) d g c := D4.set plD.1 plD.2.1 plD.2.2
      have Y5 : Play (upd H4 pl (.dK [(Sum.inr "words", .ref W)])) d g pl W zs := ⟨upd_same, by rw [upd_ne Wpl]; exact hW, four, nms, plD.1, plD.2.1, WD.1, WD.2.1⟩
      have u5 : Up d g H2 (upd H4 pl (.dK [(Sum.inr "words", .ref W)])) := (u3.trans u4).own npl
      show tSeq _ _ _ _ (upd H4 pl (.dK [(Sum.inr "words", .ref W)]))
      generalize upd H4 pl (.dK [(Sum.inr "words", .ref W)]) = H5 at D5 Y5 u5 ⊢
      -- the calc
      refine ⟨_, rfl, _, rfl, d, g, c, pl, W, zs, rfl, D5, Y5, fun v k H6 hk hkw D6 u6 => ?_⟩
      have Y6 := Y5.up u6
      -- the words
      refine ⟨_, rfl, pl, _, rfl, DGet.k (k := Sum.inr "words") Y6.hpl, W, rfl, ⟨_, sl Y6.hW⟩, fun L nL => ?_⟩
      have LD := D6.apart nL
      refine lc_it (walk_list (xs := zs.map V.str)) (fun i H7 => ∃ (ps : List Addr) (ks : List (Str × Int)), H7 L = some (.lst (ps.map V.ref)) ∧ Paired (fun p (kv : Key × V) => SqT K H7 p [kV kv.1, kv.2]) ps (dw ks) ∧ (ks.map (·.1)).Sublist (zs.take i) ∧ Dr H7 d g c ∧ Up d g H6 H7) ?_ ?_ ?_ ?_
      · exact ⟨[], [], upd_same, .nil, List.Sublist.refl _, D6.same (same_upd nL), Up.of (same_upd nL)⟩
      · rintro i H7 _ ⟨ps, ks, _, _, _, _, u7⟩
        exact sl (Y6.up u7).hW
      · rintro i x H0 H7 hi ⟨ps, ks, hL, hp, hs, D7, u7⟩ ⟨rfl, hx⟩
        rw [List.length_map] at hi
        rw [List.getElem?_map, List.getElem?_eq_getElem hi] at hx
        cases hx
        have tk : zs.take (i + 1) = zs.take i ++ [zs[i]] := by rw [List.take_add_one, List.getElem?_eq_getElem hi]; rfl
        have pl1 : ps.length ≤ i := by
          have h1 := hp.length
          have h2 := hs.length_le
          rw [List.length_map, List.length_take] at h2
          rw [dw, List.length_map] at h1
          omega
        refine ⟨rfl, _, rfl, d, g, c, 3, rfl, D7, by decide, by decide, fun r H9 r0 r1 D9 u9 => ⟨_, _, rfl, rfl, _, rfl, ite2 (fun _ => ?_) (fun _ => ?_)⟩⟩
        · refine ⟨_, rfl, _, rfl, _, _, rfl, rfl, ⟨by decide, by decide, by decide⟩, d, g, c, (10 : Int) ^ (6 : Int).toNat, rfl, D9, by decide, by decide, fun r2 H10 r20 r21 D10 u10 => ⟨_, _, rfl, rfl, by show 2 ≤ sizeLine; decide, fun p np => ?_⟩⟩
          have s11 := same_upd (o := .tup [.str zs[i], .int (r2 - 500)]) np
          have hp11 : (upd H10 p (.tup [.str zs[i], .int (r2 - 500)])) p = some (.tup [.str zs[i], .int (r2 - 500)]) := upd_same
          have uu : Up d g H7 (upd H10 p (.tup [.str zs[i], .int (r2 - 500)])) := (u9.trans u10).trans (Up.of s11)
          have D11 := D10.same s11
          generalize upd H10 p (.tup [.str zs[i], .int (r2 - 500)]) = H11 at s11 hp11 uu D11 ⊢
          refine ⟨ps.map V.ref, uu _ _ hL LD.1 LD.2.1, by rw [List.length_map]; exact small1000 (by omega), ps ++ [p], ks ++ [(zs[i], r2 - 500)], by rw [upd_same, List.map_append]; rfl, ?_, ?_, D11.set LD.1 LD.2.1 LD.2.2, (u7.trans uu).own nL⟩
          · rw [dw_app]
            exact (paired_imp (fun p kv h => sqt_set (uu _ _ hL LD.1 LD.2.1) (uu.sqt D7 h)) hp).snoc (sqt_set (uu _ _ hL LD.1 LD.2.1) (stt hp11))
          · rw [tk, List.map_append]
            exact hs.append (List.Sublist.refl _)
        · have uu := u9
          refine ⟨ps, ks, u9 _ _ hL LD.1 LD.2.1, paired_imp (fun p kv h => u9.sqt D7 h) hp, by rw [tk]; exact hs.trans (List.sublist_append_left _ _), D9, u7.trans u9⟩
      · rintro H7 ⟨ps, ks, hL, hp, hs, D7, u7⟩
        have knd : (ks.map (·.1)).Nodup := (hs.trans (List.take_sublist ..)).nodup nd4
        refine ⟨L, ps, dw ks, rfl, sl hL, hp, fun wd nwd => ?_⟩
        have em : mergeK [] (dw ks) = dw ks := merge_new (dw ks) [] (by rw [List.nil_append]; exact dw_nodup knd)
        rw [em]
        have s8 := same_upd (o := .dK (dw ks)) nwd
        have hwd : (upd H7 wd (.dK (dw ks))) wd = some (.dK (dw ks)) := upd_same
        have wdD := D7.apart nwd
        have D8 := D7.same s8
        have u8 : Up d g H6 (upd H7 wd (.dK (dw ks))) := u7.trans (Up.of s8)
        show tSeq _ _ _ _ (upd H7 wd (.dK (dw ks)))
        generalize upd H7 wd (.dK (dw ks)) = H8 at s8 hwd D8 u8 ⊢
        -- the copy
        refine ⟨_, rfl, wd, _, rfl, .inl hwd, fun kp nkp => ?_⟩
        have s9 := same_upd (o := .dK (dw ks)) nkp
        have hkp : (upd H8 kp (.dK (dw ks))) kp = some (.dK (dw ks)) := upd_same
        have kpD := D8.apart nkp
        have D9 := D8.same s9
        have u9 : Up d g H6 (upd H8 kp (.dK (dw ks))) := u8.trans (Up.of s9)
        have hwd9 := s9 _ _ hwd
        show tSeq _ _ _ _ (upd H8 kp (.dK (dw ks)))
        generalize upd H8 kp (.dK (dw ks)) = H9 at s9 hkp D9 u9 hwd9 ⊢
        have Y9 := Y6.up u9
        have hk9 := u9.ca D6 hk
        have hwn : ∀ x ∈ k.words, isNameL x = true := fun x hx => nms x (hkw x hx)
        -- is_calc, worth and words
        refine ⟨_, rfl, v, true, rfl, (hk9.cr hwn).mono (by decide), fun H10 s10 => ⟨_, _, rfl, rfl, _, rfl, ite0 rfl ?_⟩⟩
        refine ⟨_, rfl, _, rfl, v, k, wd, ks, rfl, hk9.same s10, s10 _ _ hwd9, fun H11 s11 => ?_⟩
        have s911 := s10.trans s11
        refine ⟨_, rfl, _, rfl, v, k, wd, ks, rfl, hk9.same s911, s911 _ _ hwd9, fun H12 s12 => ⟨rfl, _, rfl, ite0 (by simp [eqV]) ?_⟩⟩
        have s912 := s911.trans s12
        refine ⟨_, rfl, _, rfl, wd, kp, dw ks, dw ks, rfl, rfl, s912 _ _ hwd9, s912 _ _ hkp, rfl, dw_val knd, _, rfl, ite0 rfl ?_⟩
        have D12 := D9.same s912
        have Y12 := Y9.up (Up.of s912)
        have hk12 := hk9.same s912
        clear hwd9 hkp s8 s9 hwd hL hp D8 D9 hk9 hk Y9 Y6 Y5
        -- odd
        refine ⟨_, rfl, _, rfl, d, g, c, v, k, rfl, D12, hk12, hwn, fun v' H13 cr13 D13 u13 => ?_⟩
        refine ⟨v', false, rfl, cr13, fun H14 s14 => ⟨_, _, rfl, rfl, _, rfl, ite0 rfl ?_⟩⟩
        have D14 := D13.same s14
        have Y14 := (Y12.up u13).up (Up.of s14)
        -- the name
        obtain ⟨z0, zr, rfl⟩ : ∃ z0 zr, zs = z0 :: zr := by
          cases zs with
          | nil => cases four
          | cons a b => exact ⟨a, b, rfl⟩
        have n0 := nms z0 (List.mem_cons_self ..)
        obtain ⟨l1, l6, _⟩ := nm_parts n0
        refine ⟨_, rfl, pl, _, rfl, DGet.k (k := Sum.inr "words") Y14.hpl, W, _, _, .str z0, rfl, rfl, sl Y14.hW, atI_nat (j := 0) rfl, ?_⟩
        refine ⟨_, rfl, d, g, c, 7, rfl, D14, by decide, by decide, fun at' H15 a0 a1 D15 u15 => ?_⟩
        obtain ⟨at', rfl⟩ : ∃ j : Nat, at' = (j : Int) := ⟨at'.toNat, by omega⟩
        refine ⟨_, _, rfl, ?_⟩
        -- the sign
        refine ⟨_, rfl, d, g, c, 7, rfl, D15, by decide, by decide, fun sn H16 b0 b1 D16 u16 => ?_⟩
        obtain ⟨sn, rfl⟩ : ∃ j : Nat, sn = (j : Int) := ⟨sn.toNat, by omega⟩
        obtain ⟨sc, hsc, low⟩ := sign_low sn (by omega)
        refine ⟨signs, _, sc, rfl, rfl, by show 7 ≤ sizeLine; decide, atI_nat hsc, ?_⟩
        -- the other
        refine ⟨_, rfl, _, rfl, _, rfl, z0, rfl, Evl.sz_of (by omega), _, rfl, _, _, rfl, rfl, Evl.sz_of ?_, ?_⟩
        · have := cutS_length z0 none (some (at' : Int))
          show (cutS z0 none (some (at' : Int))).length + 1 ≤ _
          omega
        refine ⟨_, rfl, _, rfl, _, rfl, z0, rfl, Evl.sz_of (by omega), _, _, rfl, rfl, Evl.sz_of ?_, ?_⟩
        · have h1 := put_len z0 at' sc
          have h2 : (put z0 at' sc).length = (cutS z0 none (some (at' : Int)) ++ ⟨#[sc]⟩ : Str).length + (cutS z0 (some (at' : Int)) none).length := by
            show ((cutS z0 none (some (at' : Int))).cps ++ #[sc] ++ (cutS z0 (some (at' : Int)) none).cps).size = ((cutS z0 none (some (at' : Int))).cps ++ #[sc]).size + (cutS z0 (some (at' : Int)) none).cps.size
            rw [Array.size_append]
          omega
        have plen := put_len z0 at' sc
        have pnm := put_name n0 at' sc
        show tSeq _ _ _ ([some (.ref a), some (.ref d), some (.int _), some (.ref pl), some v, some (.ref wd), some (.ref kp), some (.str z0), some (.int (at' : Int)), some (.str (sg sc)), some (.str (put z0 at' sc)), y11]) H16
        generalize put z0 at' sc = oz at plen pnm ⊢
        -- due
        have ez : decide (V.str (sg sc) = V.str "z") = isLow sc := by rw [low]; exact decide_eq_decide.mpr ⟨fun z => V.str.inj z, fun z => congrArg V.str z⟩
        refine' (fun (rest : ∀ due : Bool, due = isNameL oz → tSeq _ _ _ [some (.ref a), some (.ref d), some (.int _), some (.ref pl), some v, some (.ref wd), some (.ref kp), some (.str z0), some (.int (at' : Int)), some (.str (sg sc)), some (.str oz), some (.bl due)] H16) => ?main) ?rest
        case main =>
          refine ⟨_, rfl, rfl, _, rfl, ?_⟩
          rw [ez]
          refine ite2 (fun hz => ?_) (fun hz => ?_)
          · refine ⟨_, rfl, oz, rfl, Evl.sz_of (by omega), _, _, rfl, rfl, ?_⟩
            exact rest (decide ((oz.length : Int) < 7)) (by rw [pnm, hz, Bool.true_and]; exact decide_eq_decide.mpr (by omega))
          · exact rest false (by rw [pnm, Bool.eq_false_iff.mpr hz, Bool.false_and])
        rintro due rfl
        refine ⟨_, rfl, _, rfl, .inl ⟨z0, rfl, by omega, fun H17 s17 => ?_⟩⟩
        refine ⟨_, rfl, _, rfl, .inl ⟨oz, rfl, by omega, fun H18 s18 => ?_⟩⟩
        refine ⟨_, rfl, z0, 7, rfl, rfl, by decide, by omega, _, rfl, .inl ⟨times z0 7, rfl, by rw [times_len]; omega, fun H19 s19 => ?_⟩⟩
        have s169 := s17.trans (s18.trans s19)
        refine ⟨by show 3 ≤ sizeLine; decide, fun l1 nl1 => ?_⟩
        rw [n0, seven_name n0]
        have s20 := same_upd (o := .lst [.bl true, .bl (isNameL oz), .bl false]) nl1
        have hl20 : (upd H19 l1 (.lst [.bl true, .bl (isNameL oz), .bl false])) l1 = some (.lst [.bl true, .bl (isNameL oz), .bl false]) := upd_same
        generalize upd H19 l1 (.lst [.bl true, .bl (isNameL oz), .bl false]) = H20 at s20 hl20 ⊢
        obtain ⟨t1, t2, t3, t4, t5⟩ := three_ok (isNameL oz)
        refine ⟨_, three (isNameL oz), rfl, .lst (sl hl20) (.cons (.bl _) (.cons (.bl _) (.cons (.bl _) .nil))), t1, t2, t3, t4, t5, ?_⟩
        refine ⟨_, rfl, by show 3 ≤ sizeLine; decide, fun l2 nl2 => ?_⟩
        have s21 := same_upd (o := .lst [.bl true, .bl (isNameL oz), .bl false]) nl2
        have hl21 : (upd H20 l2 (.lst [.bl true, .bl (isNameL oz), .bl false])) l2 = some (.lst [.bl true, .bl (isNameL oz), .bl false]) := upd_same
        generalize upd H20 l2 (.lst [.bl true, .bl (isNameL oz), .bl false]) = H21 at s21 hl21 ⊢
        refine ⟨_, three (isNameL oz), rfl, .lst (sl hl21) (.cons (.bl _) (.cons (.bl _) (.cons (.bl _) .nil))), t1, t2, t3, t4, t5, ?_⟩
        refine ⟨rfl, _, rfl, ite0 (by simp) ?_⟩
        have D21 := D16.same (s169.trans (s20.trans s21))
        clear s17 s18 s19 s20 s21 s169
        -- what is no name
        refine ⟨_, rfl, by show 1 ≤ sizeLine; decide, fun p1 np1 => ?_⟩
        have s22 := same_upd (o := .tup [.str z0]) np1
        have h22 : (upd H21 p1 (.tup [.str z0])) p1 = some (.tup [.str z0]) := upd_same
        generalize upd H21 p1 (.tup [.str z0]) = H22 at s22 h22 ⊢
        refine ⟨_, rfl, by show 1 ≤ sizeLine; decide, fun p2 np2 => ?_⟩
        have s23 := same_upd (o := .lst [.str z0]) np2
        have h23 : (upd H22 p2 (.lst [.str z0])) p2 = some (.lst [.str z0]) := upd_same
        have h22' := s23 _ _ h22
        have p2D := (D21.same s22).apart np2
        have p1D := D21.apart np1
        generalize upd H22 p2 (.lst [.str z0]) = H23 at s23 h23 h22' ⊢
        refine ⟨by show 6 ≤ sizeLine; decide, fun p3 np3 => ?_⟩
        have s24 := same_upd (o := .lst [.non, .int 5, .ref p1, .ref p2, .str "", .bl true]) np3
        have h24 : (upd H23 p3 (.lst [.non, .int 5, .ref p1, .ref p2, .str "", .bl true])) p3 = some (.lst [.non, .int 5, .ref p1, .ref p2, .str "", .bl true]) := upd_same
        have D24 := D21.same ((s22.trans s23).trans s24)
        have p3D := (D21.same (s22.trans s23)).apart np3
        generalize upd H23 p3 (.lst [.non, .int 5, .ref p1, .ref p2, .str "", .bl true]) = H24 at s24 h24 D24 ⊢
        refine ⟨_, rfl, d, g, c, 6, rfl, D24, by decide, by decide, fun r H25 r0 r1 D25 u25 => ?_⟩
        obtain ⟨r, rfl⟩ : ∃ j : Nat, r = (j : Int) := ⟨r.toNat, by omega⟩
        have hr6 : r < 6 := by omega
        have k24 := u25 _ _ h24 p3D.1 p3D.2.1
        have k22 := u25 _ _ (s24 _ _ h22') p1D.1 p1D.2.1
        have k23 := u25 _ _ (s24 _ _ h23) p2D.1 p2D.2.1
        have done : ∀ H' : Hp, Same H25 H' → True := fun _ _ => trivial
        rcases (by omega : r = 0 ∨ r = 1 ∨ r = 2 ∨ r = 3 ∨ r = 4 ∨ r = 5) with rfl | rfl | rfl | rfl | rfl | rfl
        · refine ⟨p3, _, _, .non, rfl, rfl, sl k24, atI_nat (j := 0) rfl, _, rfl, .inr ⟨"NoneType", by decide, .base .non, fun H26 s26 => ⟨_, _, rfl, rfl, _, rfl, ite0 rfl ⟨⟨_, _, _, _, _, _, _, _, _, _, rfl⟩, D25.same s26⟩⟩⟩⟩
        · refine ⟨p3, _, _, .int 5, rfl, rfl, sl k24, atI_nat (j := 1) rfl, _, rfl, .inr ⟨"int", by decide, .base (.int _), fun H26 s26 => ⟨_, _, rfl, rfl, _, rfl, ite0 rfl ⟨⟨_, _, _, _, _, _, _, _, _, _, rfl⟩, D25.same s26⟩⟩⟩⟩
        · refine ⟨p3, _, _, .ref p1, rfl, rfl, sl k24, atI_nat (j := 2) rfl, _, rfl, .inr ⟨"tuple", by decide, ty_tup (stt k22), fun H26 s26 => ⟨_, _, rfl, rfl, _, rfl, ite0 rfl ⟨⟨_, _, _, _, _, _, _, _, _, _, rfl⟩, D25.same s26⟩⟩⟩⟩
        · refine ⟨p3, _, _, .ref p2, rfl, rfl, sl k24, atI_nat (j := 3) rfl, _, rfl, .inr ⟨"list", by decide, ty_lst (sl k23), fun H26 s26 => ⟨_, _, rfl, rfl, _, rfl, ite0 rfl ⟨⟨_, _, _, _, _, _, _, _, _, _, rfl⟩, D25.same s26⟩⟩⟩⟩
        · refine ⟨p3, _, _, .str "", rfl, rfl, sl k24, atI_nat (j := 4) rfl, _, rfl, .inl ⟨"", rfl, by decide, fun H26 s26 => ⟨_, _, rfl, rfl, _, rfl, ite0 (by decide) ⟨⟨_, _, _, _, _, _, _, _, _, _, rfl⟩, D25.same s26⟩⟩⟩⟩
        · refine ⟨p3, _, _, .bl true, rfl, rfl, sl k24, atI_nat (j := 5) rfl, _, rfl, .inr ⟨"bool", by decide, .base (.bl _), fun H26 s26 => ⟨_, _, rfl, rfl, _, rfl, ite0 rfl ⟨⟨_, _, _, _, _, _, _, _, _, _, rfl⟩, D25.same s26⟩⟩⟩⟩
    · rintro σ H2 ⟨⟨y2, y3, y4, y5, y6, y7, y8, y9, y10, y11, rfl⟩, D2⟩
      exact q H2
end
theorem all_mk {l : PySem.W.OpenLaw} {w : World} {K : PySem.W.Frag} {h : Heap} {mg : Str → Option Value} {fa f1 f2 f3 f4 f5 f6 f7 f8 f9 f10 f11 f12 : Addr} (X : K.In h) (G : h.Ns mainGlobals mg) (hfa : mg "law" = some (.ref fa))
    {od1 an1 od2 an2 od3 an3 od4 an4 od5 an5 od6 an6 od7 an7 od8 an8 od9 an9 od10 an10 od11 an11 od12 an12 : Option Addr} {sl1 sl2 sl3 sl4 sl5 sl6 sl7 sl8 sl9 sl10 sl11 sl12 : Array (Option Value)} {oc1 kV1 dc1 pm1 cd1 ct1 oc2 kV2 dc2 pm2 cd2 ct2 oc3 kV3 dc3 pm3 cd3 ct3 oc4 kV4 dc4 pm4 cd4 ct4 oc5 kV5 dc5 pm5 cd5 ct5 oc6 kV6 dc6 pm6 cd6 ct6 oc7 kV7 dc7 pm7 cd7 ct7 oc8 kV8 dc8 pm8 cd8 ct8 oc9 kV9 dc9 pm9 cd9 ct9 oc10 kV10 dc10 pm10 cd10 ct10 oc11 kV11 dc11 pm11 cd11 ct11 oc12 kV12 dc12 pm12 cd12 ct12 : Value}
    {tk1 tk2 tk3 tk4 : Tok} {A_KINDS : Addr} {co_KINDS : Option Addr} {cn_KINDS : Nat} {cs_KINDS : Array (Option Value)}
    (a1 : PySem.W.nsIn K mainGlobals "is_name" = some (some (.ref f1))) (l1 : K.lookup f1 = some ⟨oc1, od1, .func (PySem.W.fnOf "is_name" "is_name" (defArgs s_isname) (defBody s_isname) (defScope s_isname) .none kV1 dc1 pm1 an1 cd1 ct1), sl1⟩) (c1 : PySem.W.codeIn K cd1 "is_name" = true) (k1 : PySem.W.keepIn K (.ref f1) = true)
    (a2 : PySem.W.nsIn K mainGlobals "is_number" = some (some (.ref f2))) (l2 : K.lookup f2 = some ⟨oc2, od2, .func (PySem.W.fnOf "is_number" "is_number" (defArgs s_isnum) (defBody s_isnum) (defScope s_isnum) .none kV2 dc2 pm2 an2 cd2 ct2), sl2⟩) (c2 : PySem.W.codeIn K cd2 "is_number" = true) (k2 : PySem.W.keepIn K (.ref f2) = true)
    (a3 : PySem.W.nsIn K mainGlobals "is_calc" = some (some (.ref f3))) (l3 : K.lookup f3 = some ⟨oc3, od3, .func (PySem.W.fnOf "is_calc" "is_calc" (defArgs s_iscalc) (defBody s_iscalc) (defScope s_iscalc) .none kV3 dc3 pm3 an3 cd3 ct3), sl3⟩) (c3 : PySem.W.codeIn K cd3 "is_calc" = true) (k3 : PySem.W.keepIn K (.ref f3) = true)
    (a4 : PySem.W.nsIn K mainGlobals "worth" = some (some (.ref f4))) (l4 : K.lookup f4 = some ⟨oc4, od4, .func (PySem.W.fnOf "worth" "worth" (defArgs s_worth) (defBody s_worth) (defScope s_worth) .none kV4 dc4 pm4 an4 cd4 ct4), sl4⟩) (c4 : PySem.W.codeIn K cd4 "worth" = true) (k4 : PySem.W.keepIn K (.ref f4) = true)
    (a5 : PySem.W.nsIn K mainGlobals "_law_begun" = some (some (.ref f5))) (l5 : K.lookup f5 = some ⟨oc5, od5, .func (PySem.W.fnOf "_law_begun" "_law_begun" (defArgs s_begun) (defBody s_begun) (defScope s_begun) .none kV5 dc5 pm5 an5 cd5 ct5), sl5⟩) (c5 : PySem.W.codeIn K cd5 "_law_begun" = true) (k5 : PySem.W.keepIn K (.ref f5) = true)
    (a6 : PySem.W.nsIn K mainGlobals "_law_next" = some (some (.ref f6))) (l6 : K.lookup f6 = some ⟨oc6, od6, .func (PySem.W.fnOf "_law_next" "_law_next" (defArgs s_next) (defBody s_next) (defScope s_next) .none kV6 dc6 pm6 an6 cd6 ct6), sl6⟩) (c6 : PySem.W.codeIn K cd6 "_law_next" = true) (k6 : PySem.W.keepIn K (.ref f6) = true)
    (a7 : PySem.W.nsIn K mainGlobals "_law_name" = some (some (.ref f7))) (l7 : K.lookup f7 = some ⟨oc7, od7, .func (PySem.W.fnOf "_law_name" "_law_name" (defArgs s_name) (defBody s_name) (defScope s_name) .none kV7 dc7 pm7 an7 cd7 ct7), sl7⟩) (c7 : PySem.W.codeIn K cd7 "_law_name" = true) (k7 : PySem.W.keepIn K (.ref f7) = true)
    (a8 : PySem.W.nsIn K mainGlobals "_law_names" = some (some (.ref f8))) (l8 : K.lookup f8 = some ⟨oc8, od8, .func (PySem.W.fnOf "_law_names" "_law_names" (defArgs s_names) (defBody s_names) (defScope s_names) .none kV8 dc8 pm8 an8 cd8 ct8), sl8⟩) (c8 : PySem.W.codeIn K cd8 "_law_names" = true) (k8 : PySem.W.keepIn K (.ref f8) = true)
    (a9 : PySem.W.nsIn K mainGlobals "_law_calc" = some (some (.ref f9))) (l9 : K.lookup f9 = some ⟨oc9, od9, .func (PySem.W.fnOf "_law_calc" "_law_calc" (defArgs s_lcalc) (defBody s_lcalc) (defScope s_lcalc) .none kV9 dc9 pm9 an9 cd9 ct9), sl9⟩) (c9 : PySem.W.codeIn K cd9 "_law_calc" = true) (k9 : PySem.W.keepIn K (.ref f9) = true)
    (a10 : PySem.W.nsIn K mainGlobals "_law_worth" = some (some (.ref f10))) (l10 : K.lookup f10 = some ⟨oc10, od10, .func (PySem.W.fnOf "_law_worth" "_law_worth" (defArgs s_lworth) (defBody s_lworth) (defScope s_lworth) .none kV10 dc10 pm10 an10 cd10 ct10), sl10⟩) (c10 : PySem.W.codeIn K cd10 "_law_worth" = true) (k10 : PySem.W.keepIn K (.ref f10) = true)
    (a11 : PySem.W.nsIn K mainGlobals "_law_odd" = some (some (.ref f11))) (l11 : K.lookup f11 = some ⟨oc11, od11, .func (PySem.W.fnOf "_law_odd" "_law_odd" (defArgs s_odd) (defBody s_odd) (defScope s_odd) .none kV11 dc11 pm11 an11 cd11 ct11), sl11⟩) (c11 : PySem.W.codeIn K cd11 "_law_odd" = true) (k11 : PySem.W.keepIn K (.ref f11) = true)
    (a12 : PySem.W.nsIn K mainGlobals "law" = some (some (.ref f12))) (l12 : K.lookup f12 = some ⟨oc12, od12, .func (PySem.W.fnOf "law" "law" (defArgs s_law) (defBody s_law) (defScope s_law) .none kV12 dc12 pm12 an12 cd12 ct12), sl12⟩) (c12 : PySem.W.codeIn K cd12 "law" = true) (k12 : PySem.W.keepIn K (.ref f12) = true)
    (g_LETTERS : PySem.W.nsIn K mainGlobals "LETTERS" = some (some (.str "abcdefghijklmnopqrstuvwxyz" tk1)))
    (g_KINDS : PySem.W.nsIn K mainGlobals "KINDS" = some (some (.ref A_KINDS))) (t_KINDS : K.lookup A_KINDS = some ⟨.type "tuple", co_KINDS, .seq #[.str "sum" tk2, .str "minus" tk3, .str "less" tk4] cn_KINDS, cs_KINDS⟩)
    (z_all : PySem.W.nsIn K mainGlobals "all" = some none) (z_bool : PySem.W.nsIn K mainGlobals "bool" = some none) (z_dict : PySem.W.nsIn K mainGlobals "dict" = some none) (z_int : PySem.W.nsIn K mainGlobals "int" = some none) (z_isinstance : PySem.W.nsIn K mainGlobals "isinstance" = some none) (z_len : PySem.W.nsIn K mainGlobals "len" = some none) (z_list : PySem.W.nsIn K mainGlobals "list" = some none) (z_range : PySem.W.nsIn K mainGlobals "range" = some none) (z_repr : PySem.W.nsIn K mainGlobals "repr" = some none) (z_str : PySem.W.nsIn K mainGlobals "str" = some none) (z_tuple : PySem.W.nsIn K mainGlobals "tuple" = some none) :
    ∃ fd : FuncData, (∀ (s : Shared) (v : Value), BindsTo s fd ⟨[v], []⟩ [("_law_script", v)]) ∧ ∀ base : Heap, K.In base → base.Ns mainGlobals mg → HG.FnG l.prog w K mg base CX0 8 fa fd ["_law_script"] (spLaw K) := by
  have e := hfa.symm.trans (PySem.W.mg_of X G a12)
  cases e
  have F1 := fun_mk (st := s_isname) l1 c1 k1
  have F2 := fun_mk (st := s_isnum) l2 c2 k2
  have F3 := fun_mk (st := s_iscalc) l3 c3 k3
  have F4 := fun_mk (st := s_worth) l4 c4 k4
  have F5 := fun_mk (st := s_begun) l5 c5 k5
  have F6 := fun_mk (st := s_next) l6 c6 k6
  have F7 := fun_mk (st := s_name) l7 c7 k7
  have F8 := fun_mk (st := s_names) l8 c8 k8
  have F9 := fun_mk (st := s_lcalc) l9 c9 k9
  have F10 := fun_mk (st := s_lworth) l10 c10 k10
  have F11 := fun_mk (st := s_odd) l11 c11 k11
  have F12 := fun_mk (st := s_law) l12 c12 k12
  have b1 := F1.binds (ps := ["thing"]) fun _ _ _ _ _ _ us hl => match us, hl with | [_], _ => rfl
  have b2 := F2.binds (ps := ["thing"]) fun _ _ _ _ _ _ us hl => match us, hl with | [_], _ => rfl
  have b3 := F3.binds (ps := ["thing"]) fun _ _ _ _ _ _ us hl => match us, hl with | [_], _ => rfl
  have b4 := F4.binds (ps := ["calc", "words"]) fun _ _ _ _ _ _ us hl => match us, hl with | [_, _], _ => rfl
  have b5 := F5.binds (ps := ["_law_script"]) fun _ _ _ _ _ _ us hl => match us, hl with | [_], _ => rfl
  have b6 := F6.binds (ps := ["_law_draw", "_law_size"]) fun _ _ _ _ _ _ us hl => match us, hl with | [_, _], _ => rfl
  have b7 := F7.binds (ps := ["_law_draw"]) fun _ _ _ _ _ _ us hl => match us, hl with | [_], _ => rfl
  have b8 := F8.binds (ps := ["_law_draw", "_law_many"]) fun _ _ _ _ _ _ us hl => match us, hl with | [_, _], _ => rfl
  have b9 := F9.binds (ps := ["_law_draw", "_law_play", "_law_deep"]) fun _ _ _ _ _ _ us hl => match us, hl with | [_, _, _], _ => rfl
  have b10 := F10.binds (ps := ["_law_calc_here", "_law_words"]) fun _ _ _ _ _ _ us hl => match us, hl with | [_, _], _ => rfl
  have b11 := F11.binds (ps := ["_law_draw", "_law_calc_here"]) fun _ _ _ _ _ _ us hl => match us, hl with | [_, _], _ => rfl
  have T : Tp K mg := { f_isname := f1, fd_isname := _, D_isname := ⟨F1, b1, PySem.W.mg_of X G a1⟩, f_isnum := f2, fd_isnum := _, D_isnum := ⟨F2, b2, PySem.W.mg_of X G a2⟩, f_iscalc := f3, fd_iscalc := _, D_iscalc := ⟨F3, b3, PySem.W.mg_of X G a3⟩, f_worth := f4, fd_worth := _, D_worth := ⟨F4, b4, PySem.W.mg_of X G a4⟩, f_begun := f5, fd_begun := _, D_begun := ⟨F5, b5, PySem.W.mg_of X G a5⟩, f_next := f6, fd_next := _, D_next := ⟨F6, b6, PySem.W.mg_of X G a6⟩, f_name := f7, fd_name := _, D_name := ⟨F7, b7, PySem.W.mg_of X G a7⟩, f_names := f8, fd_names := _, D_names := ⟨F8, b8, PySem.W.mg_of X G a8⟩, f_lcalc := f9, fd_lcalc := _, D_lcalc := ⟨F9, b9, PySem.W.mg_of X G a9⟩, f_lworth := f10, fd_lworth := _, D_lworth := ⟨F10, b10, PySem.W.mg_of X G a10⟩, f_odd := f11, fd_odd := _, D_odd := ⟨F11, b11, PySem.W.mg_of X G a11⟩, c_LETTERS := ⟨_, PySem.W.mg_of X G g_LETTERS⟩, a_KINDS := A_KINDS, c_KINDS := PySem.W.mg_of X G g_KINDS, t_KINDS := fun H => .inr ⟨_, _, _, t_KINDS, rfl, rfl, (by show 3 ≤ sizeLine; decide), (.cons ⟨_, rfl⟩ (.cons ⟨_, rfl⟩ (.cons ⟨_, rfl⟩ .nil)))⟩, all := PySem.W.mg_none_of X G z_all, bool := PySem.W.mg_none_of X G z_bool, dict := PySem.W.mg_none_of X G z_dict, int := PySem.W.mg_none_of X G z_int, isinstance := PySem.W.mg_none_of X G z_isinstance, len := PySem.W.mg_none_of X G z_len, list := PySem.W.mg_none_of X G z_list, range := PySem.W.mg_none_of X G z_range, repr := PySem.W.mg_none_of X G z_repr, str := PySem.W.mg_none_of X G z_str, tuple := PySem.W.mg_none_of X G z_tuple }
  exact ⟨PySem.W.fnOf "law" "law" (defArgs s_law) (defBody s_law) (defScope s_law) .none kV12 dc12 pm12 an12 cd12 ct12, fun s v => .of_eq rfl, fun base _ _ => ok_law F12 T⟩
end T01
open PySem PySem.W PyProof.Rows
set_option maxRecDepth 100000 in
set_option maxHeartbeats 0 in
theorem PySem.Challenge.cw_nestyard_k01_names_and_calcs_holds : PySem.Challenge.rw_nestyard_k01_names_and_calcs.Holds := by
  w_on; o_law; k_head; (case hw => w_witness2)
  k_fill
  refine HG.walk_ofG (l := PySem.Challenge.rw_nestyard_k01_names_and_calcs) (n := 63) (k := 8) (x := "_law_script") (CX := fun _ => L2.CX0) (sp := fun w => T01.spLaw _) rfl (by decide) rfl ⟨rfl, by decide, by decide⟩ (fun w h Y => PySem.W.kIn_of Y) ?F (fun _ _ a ns hl _ hS => ⟨a, ns, rfl, hS, hl, fun _ => rfl⟩) (fun _ _ _ _ _ h => h)
  case F =>
    intro w mg fa h KX G hmg
    refine' T01.all_mk KX G hmg ?a1 ?l1 ?c1 ?k1 ?a2 ?l2 ?c2 ?k2 ?a3 ?l3 ?c3 ?k3 ?a4 ?l4 ?c4 ?k4 ?a5 ?l5 ?c5 ?k5 ?a6 ?l6 ?c6 ?k6 ?a7 ?l7 ?c7 ?k7 ?a8 ?l8 ?c8 ?k8 ?a9 ?l9 ?c9 ?k9 ?a10 ?l10 ?c10 ?k10 ?a11 ?l11 ?c11 ?k11 ?a12 ?l12 ?c12 ?k12 ?g_LETTERS ?g_KINDS ?t_KINDS ?z_all ?z_bool ?z_dict ?z_int ?z_isinstance ?z_len ?z_list ?z_range ?z_repr ?z_str ?z_tuple
    (case a1 => k_is); (case l1 => k_is); (case c1 => k_is); (case k1 => k_is); (case a2 => k_is); (case l2 => k_is); (case c2 => k_is); (case k2 => k_is); (case a3 => k_is); (case l3 => k_is); (case c3 => k_is); (case k3 => k_is); (case a4 => k_is); (case l4 => k_is); (case c4 => k_is); (case k4 => k_is); (case a5 => k_is); (case l5 => k_is); (case c5 => k_is); (case k5 => k_is); (case a6 => k_is); (case l6 => k_is); (case c6 => k_is); (case k6 => k_is); (case a7 => k_is); (case l7 => k_is); (case c7 => k_is); (case k7 => k_is); (case a8 => k_is); (case l8 => k_is); (case c8 => k_is); (case k8 => k_is); (case a9 => k_is); (case l9 => k_is); (case c9 => k_is); (case k9 => k_is); (case a10 => k_is); (case l10 => k_is); (case c10 => k_is); (case k10 => k_is); (case a11 => k_is); (case l11 => k_is); (case c11 => k_is); (case k11 => k_is); (case a12 => k_is); (case l12 => k_is); (case c12 => k_is); (case k12 => k_is); (case g_LETTERS => k_is); (case g_KINDS => k_is); (case t_KINDS => k_is); (case z_all => k_is); (case z_bool => k_is); (case z_dict => k_is); (case z_int => k_is); (case z_isinstance => k_is); (case z_len => k_is); (case z_list => k_is); (case z_range => k_is); (case z_repr => k_is); (case z_str => k_is); (case z_tuple => k_is)
