import PyProof.Rows.All
import Wide.All
import OpenK.AllK
import Wide.FinOn
import KE.KUnpackStar
import HandS.ForMost
import KE.SortData
import KE.KDictPairs
import PyProof.DictUpdate
import HandS.NoneIn
import PyProof.StrOps2
import PyProof.ReprReads
import PyProof.Rows.NestShow
import HandS.IsInst
import HandS.Flow
import HandS.Style
import HandS.Walk
import HandS.Evl
import HandS.Wide
import HandS.DictComp
import PyProof.SumAny
import HandS.Defaults
import HandS.More
import HandS.Head0
import HandS.Head1
import HandS.Head2
import HandS.HeadEnd
import HandS.HeadHook1
import HandS.HeadHook2
import HandS.HeadHook3
import KE.GoesMore
import KE.GoesZip
import HandS.Zip
import PyProof.Rows.SeqMore
import HandS.Strs
import HandS.ExcInit
import HandS.ExcField
import HandS.ExcOwn
import HandS.MakeKwOnly
import HandS.WordsExc
import PyProof.ReprBulk
import HandS.TupMul
import PySem.Challenge.RW_nestyard_k06_rows_at_the_bounds
set_option Elab.async false
set_option linter.all false
set_option maxRecDepth 100000
set_option maxHeartbeats 4000000
set_option autoImplicit false
/-! Own rules over the hand layer: targets with a star. -/
namespace HX
open PySem PySem.Spec PySem.Calls PyProof.Rows L2
section
variable {prog : Program} {w : World} {A : Around} {E : Value → Shared → Prop} {s : Shared}
/-- the items of a tuple over n targets of which the i-th has a star -/
theorem star_run {t : Addr} {its : Array Value} {n i : Nat} {Q : List Value → Shared → Prop} (ht : IsTup s.heap t its) (hh : A.handled = none) (hi : i < n) (hn : n ≤ its.size + 1) (hz : its.size ≤ 16384)
    (q : ∀ (g : Heap) (tk : Nat), (∀ b o, s.heap.get? b = some o → g.get? b = some o) →
      Q (its.toList.take i ++ [.ref g.objs.size] ++ (its.toList.drop i).drop (its.size + 1 - n)) { s with heap := g.push { cls := .type "list", data := .seq ((its.toList.drop i).take (its.size + 1 - n)).toArray }, toks := tk }) :
    wpAny (model prog w) A (unpackItems (.ref t) n (some i)) Q E s := by
  have tlt : t < s.heap.objs.size := ht.lt
  have tne : t ≠ s.heap.objs.size := Nat.ne_of_lt tlt
  have lens : (its.toList.take i).length = i ∧ (its.toList.drop i).length = its.size - i := by
    refine ⟨?_, ?_⟩
    · rw [List.length_take, Array.length_toList]; omega
    · rw [List.length_drop, Array.length_toList]
  unfold unpackItems
  apply wpAny_bind
  unfold notIterableAtAll
  apply wpAny_bind
  refine wpAny_specialOf ht.typeIs slot_tuple_iter.lookup (wpAny_pure ?_)
  simp only [Bool.false_eq_true, if_false]
  apply wpAny_bind
  refine wpAny_holding (iter_tuple ht ?_)
  apply wpAny_bind
  refine wpAny_holding (draw_tuple tne i 0 _ _ ⟨_, Heap.get?_push_size _ rfl, rfl, rfl⟩ (ht.push _) (by omega) fun g1 it1 sb => ?_)
  have ht1 : IsTup g1 t its := (ht.push _).extBut sb.extBut tne
  rw [Nat.zero_add] at it1
  obtain ⟨oi, eoi, _⟩ := id it1
  rw [List.drop_zero, if_neg (show ¬ ((its.toList.take i).length < i) by rw [lens.1]; exact Nat.lt_irrefl _)]
  apply wpAny_bind
  refine wpAny_holding (PySem.W.kun_collect (s := { s with heap := g1 }) (T := "tuple_iterator") (.inr (.inr (.inr rfl))) (Walks.tuple (A := A.in1) hh s.heap.objs.size t tne its) (fun j u st => st.1.typeIs) (k := i) (by omega) ⟨it1, ht1⟩ (Heap.lt_size eoi) ht1.lt (fun g2 tk kp => ?_) (by rw [sizeLine_eq]; omega))
  have mid : (its.toList.drop i).length - (n - 1 - i) = its.size + 1 - n := by rw [lens.2]; omega
  have enough : ¬ ((its.toList.drop i).length < n - 1 - i) := by rw [lens.2]; omega
  show wpAny _ _ (if (its.toList.drop i).length < n - 1 - i then _ else _) _ _ _
  rw [if_neg enough]
  show wpAny _ _ (newList ((its.toList.drop i).take ((its.toList.drop i).length - (n - 1 - i))) >>= fun d => pure (its.toList.take i ++ [d] ++ (its.toList.drop i).drop ((its.toList.drop i).length - (n - 1 - i)))) _ _ _
  rw [mid]
  apply wpAny_bind
  refine wpAny_newList (wpAny_pure ?_) (by rw [List.length_take, lens.2, sizeLine_eq]; omega)
  exact q g2 tk fun b o e => kp b o (Nat.ne_of_lt (Heap.lt_size e)) (sb.extBut b o (Nat.ne_of_lt (Heap.lt_size e)) (Heap.get?_push_of_some _ e))
end
/-- (a, *b, c) = a tuple: the starred one is a new list -/
def gStar (K : PySem.W.Frag) (n i : Nat) (t : TGs) : TG := fun v σ H Q => ∃ a xs, v = .ref a ∧ SqT K H a xs ∧ n ≤ xs.length + 1 ∧ xs.length ≤ 16384 ∧
  ∀ p, H p = none → t (xs.take i ++ [.ref p] ++ (xs.drop i).drop (xs.length + 1 - n)) σ (upd H p (.lst ((xs.drop i).take (xs.length + 1 - n)))) Q
section
variable {X : Cx}
theorem pgs_star {e : Expr} {es : List Expr} {t : TG} {u : TGs} {p : Pos} (h1 : PG X e t) (h2 : PGs X es u) : PGs X (.Starred e p :: es) (gCons t u) := by
  constructor
  intro pins s σ H vs us Q I r h
  obtain ⟨v, vr, rfl, h⟩ := h
  cases r with
  | cons r rr =>
    show wpAny _ _ (assignInOrder (assign e X.env :: (assignEach es X.env).map (·.2)) _) _ _ _
    exact assignInOrder_cons (thn (h1.run pins s σ H _ _ _ I r h) fun _ s1 ⟨σ1, H1, I1, q1⟩ => h2.run pins s1 σ1 H1 _ _ Q I1 rr q1)
theorem pg_star {es : List Expr} {k : Nat} {t : TGs} {n i : Nat} {pos : Pos} (hc : X.calm = true) (h : PGs X es t)
    (hn : (assignEach es X.env).length = n := by rfl) (hst : (assignEach es X.env).findIdx? (·.1) = some i := by rfl) (hi : i < n := by decide) : PG X (.Tuple es k pos) (gStar X.K n i t) := by
  refine ⟨fun pins s σ H v u Q I r hw => ?_⟩
  obtain ⟨a, xs, e1, hq, hl, hz, hw⟩ := hw
  subst e1
  cases r
  obtain ⟨its, rv, ht, _⟩ := I.tuple hq
  have el : its.length = xs.length := rv.length.symm
  rw [assign_Tuple]
  refine wpAny_bind (wpAny_standAt ?_)
  unfold unpack
  rw [hn, hst]
  refine wpAny_bind (wpAny_holding (star_run ht (I.ok.hd hc) hi (by rw [List.size_toArray, el]; exact hl) (by rw [List.size_toArray, el]; exact hz) fun g tk kp => ?_))
  simp only [List.size_toArray, el]
  have I1 : Inv X pins σ H { s with heap := g, toks := tk } := I.kept kp
  have I2 : Inv X pins σ (upd H g.objs.size (.lst ((xs.drop i).take (xs.length + 1 - n)))) { s with heap := g.push { cls := .type "list", data := .seq ((its.drop i).take (xs.length + 1 - n)).toArray }, toks := tk } :=
    I1.laid (t' := tk) (fun b o q => Heap.get?_push_of_some _ q) (Nat.le_refl _)
      ⟨Nat.le_trans (Nat.le_trans (List.length_take_le' _ _) (by rw [List.length_drop]; exact Nat.sub_le _ _)) (Nat.le_trans hz (by rw [sizeLine_eq]; omega)), _, 0, (rv.drop i).take _, Heap.get?_push_size _ rfl⟩
  exact h.run pins _ σ _ _ _ Q I2 (((rv.take i).append (show Vals [V.ref g.objs.size] [Value.ref g.objs.size] from .cons rfl .nil)).append ((rv.drop i).drop _)) (hw _ (I1.hok.fresh (Nat.le_refl _)))
end
end HX
/-! Own rules over the hand layer: sorted of data; dict of a tuple of pairs; update by a dict; a tuple whose object is plain. -/
namespace HX
open PySem PySem.Spec PySem.Calls PyProof.Rows L2
open PySem.W (EachIs)
section
variable {K : PySem.W.Frag} {H H' : Hp}
theorem dpAll_len : ∀ {xs : List V} {ds : List PyData}, DpAll K H xs ds → xs.length = ds.length
  | _, _, .nil => rfl
  | _, _, .cons _ t => congrArg (· + 1) (dpAll_len t)
theorem each_len {α β : Type} {R : α → β → Prop} : ∀ {as : List α} {bs : List β}, EachIs R as bs → as.length = bs.length
  | _, _, .nil => rfl
  | _, _, .cons _ t => congrArg (· + 1) (each_len t)
theorem each_of_vals : ∀ {xs : List V} {us : List Value} {ds : List PyData}, Vals xs us → xs.length = ds.length → EachIs (fun (u : Value) (b : V × PyData) => RelV b.1 u) us (xs.zip ds)
  | _, _, [], r, h => by
    cases r with
    | nil => exact .nil
    | cons _ _ => cases h
  | _, _, d :: ds, r, h => by
    cases r with
    | nil => cases h
    | cons r t => exact .cons r (each_of_vals t (Nat.succ.inj h))
theorem vals_of_each : ∀ {us : List Value} {bs : List (V × PyData)}, EachIs (fun (u : Value) (b : V × PyData) => RelV b.1 u) us bs → Vals (bs.map (·.1)) us
  | _, _, .nil => .nil
  | _, _, .cons r t => .cons r (vals_of_each t)
theorem zip_snd : ∀ {xs : List V} {ds : List PyData}, xs.length = ds.length → (xs.zip ds).map (·.2) = ds
  | [], [], _ => rfl
  | x :: xs, d :: ds, h => by
    rw [List.zip_cons_cons, List.map_cons, zip_snd (Nat.succ.inj h)]
/-- the items, sorted by the data that they are -/
def sortD (xs : List V) (ds : List PyData) : List V := ((xs.zip ds).mergeSort (PySem.W.dataLe false (·.2))).map (·.1)
theorem sortD_perm {xs : List V} {ds : List PyData} (h : xs.length = ds.length) : (sortD xs ds).Perm xs := by
  have h1 := (List.mergeSort_perm (xs.zip ds) (PySem.W.dataLe false (·.2))).map (·.1)
  rwa [List.map_fst_zip (Nat.le_of_eq h)] at h1
def rSortD (K : PySem.W.Frag) : List V → Hp → VK → Prop := fun vs H Q => ∃ (a : Addr) (xs : List V) (ds : List PyData), vs = [V.ref a] ∧ SqL K H a xs ∧ DpAll K H xs ds ∧ PySem.W.AllAlike ds ∧ PySem.W.Sortable ds ∧ (∀ d ∈ ds, d.depth ≤ 60) ∧
  ∀ p, H p = none → Q (.ref p) (upd H p (.lst (sortD xs ds)))
end
section
variable {X : Cx} {pins : List (Addr × Obj)} {σ : L2.St} {H : Hp} {s : Shared}
theorem reads_each (I : Inv X pins σ H s) : ∀ {xs : List V} {us : List Value} {ds : List PyData}, Vals xs us → DpAll X.K H xs ds → EachIs (fun (u : Value) (b : V × PyData) => ∃ as, Reads s.heap u b.2 as) us (xs.zip ds)
  | _, _, _, .nil, .nil => .nil
  | _, _, _, .cons r t, .cons h k => .cons (Dp.reads I _ _ _ h r) (reads_each I t k)
theorem cr_sortD (hu : X.A.units + 64 < cLine) : CallR X (.builtin "sorted") (rSortD X.K) := by
  intro pins s σ H vs us Q I r h
  obtain ⟨a, xs, ds, rfl, hs, hd, hal, hk, hdep, q⟩ := h
  obtain ⟨its, rv, hl, hz⟩ := I.list hs
  rw [Vals.ref1 r]
  have el := dpAll_len hd
  have ez : (xs.zip ds).length = xs.length := by rw [List.length_zip, el, Nat.min_self]
  have e2 : (xs.zip ds).map (fun b : V × PyData => b.2) = ds := zip_snd el
  refine PySem.W.sorted_data (enc := fun b : V × PyData => b.2) hl.isList (each_of_vals rv el) (reads_each I rv hd) (by rw [e2]; exact hal) (by rw [e2]; exact hk) (by rw [ez]; exact hz) (fun b hb => ?_) fun out ho eo => ?_
  · have hb2 : b.2 ∈ ds := by rw [← e2]; exact List.mem_map.mpr ⟨b, hb, rfl⟩
    have := hdep _ hb2
    omega
  · obtain ⟨c, he⟩ := PyProof.Rows.sortedAll_at s.heap its out.toArray
    have hlen : (sortD xs ds).length ≤ sizeLine := by rw [(sortD_perm el).length_eq]; exact hz
    exact ⟨.ref _, upd H (s.heap.objs.size + 1) (.lst (sortD xs ds)), I.laid (t' := s.toks) (fun _ _ => PyProof.Rows.sortedAll_old) (Nat.le_succ _) ⟨hlen, out, c, vals_of_each eo, he⟩, rfl, q _ (I.hok.fresh (Nat.le_succ _))⟩
/-- tuple(list): its object has no dict of its own -/
def rTupP (K : PySem.W.Frag) : List V → Hp → VK → Prop := fun vs H Q => ∃ (a : Addr) (xs : List V), vs = [V.ref a] ∧ SqL K H a xs ∧ ∀ (p : Addr) (o : Obj), H p = none → o.dict = none → Q (.ref p) (upd H p (.frz o (.tup xs)))
theorem call_tupP : CallR X (.type "tuple") (rTupP X.K) := by
  intro pins s σ H vs us Q I r h
  obtain ⟨a, xs, rfl, hs, q⟩ := h
  obtain ⟨its, rv, hl, hz⟩ := I.list hs
  rw [Vals.ref1 r]
  have el := rv.length
  refine call_tuple_list hl.isList (fun g kp => ?_) (by rw [List.size_toArray, ← el]; exact hz)
  have I1 : Inv X pins σ H { s with heap := g } := I.kept (t' := s.toks) kp
  have e : (g.push { cls := .type "tuple", data := .seq its.toArray }).get? g.objs.size = some { cls := .type "tuple", data := .seq its.toArray } := Heap.get?_push_size _ rfl
  exact ⟨.ref g.objs.size, _, I1.laid (t' := s.toks) (fun _ _ k => Heap.get?_push_of_some _ k) (Nat.le_refl _) (show ObjOk X.prog X.w _ _ _ (.frz _ (.tup xs)) from ⟨e, hz, its, rv, _, e, rfl, _, rfl⟩), rfl, q _ _ (I1.hok.fresh (Nat.le_refl _)) rfl⟩
end
end HX
namespace HX
open PySem PySem.Spec PySem.Calls PyProof.Rows L2
open PySem.W (EachIs)
section
variable {X : Cx} {pins : List (Addr × Obj)} {σ : L2.St} {H : Hp} {s : Shared}
theorem pairs_v (I : Inv X pins σ H s) : ∀ {ps : List Addr} {kvs : List (Key × V)}, Paired (fun p kv => SqT X.K H p [kV kv.1, kv.2]) ps kvs →
    ∃ (prs : List (Key × Value)) (rs : List (Value × Value)), KV kvs prs ∧ prs.length = ps.length ∧ rs.length = ps.length ∧
      ∀ (j : Nat) (k v : Value), rs[j]? = some (k, v) → ∃ (b : Addr) (key : Key), ps[j]? = some b ∧ IsTup s.heap b #[k, v] ∧ prs[j]? = some (key, v) ∧ keyIs key k = true
  | _, _, .nil => ⟨[], [], .nil, rfl, rfl, fun j k v e => by simp at e⟩
  | _, _, .cons (a := p) (b := kv) h t => by
    obtain ⟨prs, rs, r, l1, l2, hp⟩ := pairs_v I t
    obtain ⟨its, rv, ht, _⟩ := I.tuple h
    obtain ⟨u, y, ei, ru, ry⟩ := vals2 rv
    subst ei
    refine ⟨(kv.1, y) :: prs, (u, y) :: rs, .cons ⟨rfl, ry⟩ r, congrArg (· + 1) l1, congrArg (· + 1) l2, fun j k v e => ?_⟩
    cases j with
    | zero =>
      obtain ⟨rfl, rfl⟩ := Prod.mk.inj (Option.some.inj e)
      exact ⟨p, kv.1, rfl, ht, rfl, kV_is (P := X.prog) (w := X.w) ru⟩
    | succ j => exact hp j k v e
/-- dict(t), t a plain tuple of pairs -/
def rDictT (K : PySem.W.Frag) : List V → Hp → VK → Prop := fun vs H Q => ∃ (a : Addr) (o : Obj) (ps : List Addr) (kvs : List (Key × V)), vs = [.ref a] ∧ H a = some (.frz o (.tup (ps.map V.ref))) ∧ o.dict = none ∧ Paired (fun p kv => SqT K H p [kV kv.1, kv.2]) ps kvs ∧
  ∀ p, H p = none → Q (.ref p) (upd H p (.dK (mergeK [] kvs)))
theorem call_dictT (hcalm : X.calm = true) : CallR X (.type "dict") (rDictT X.K) := by
  intro pins s σ H vs us Q I r h
  obtain ⟨a, o, ps, kvs, rfl, ha, od, hp, q⟩ := h
  rw [Vals.ref1 r]
  obtain ⟨ho, hz, its, rv, o2, ho2, hc, n, hd⟩ := (show ObjOk X.prog X.w H s.heap a (.frz o (.tup (ps.map V.ref))) from I.hok a _ ha)
  rw [ho] at ho2
  cases ho2
  have ei := refs_at rv
  subst ei
  rw [List.length_map] at hz
  obtain ⟨prs, rs, rel, l1, l2, hq⟩ := pairs_v I hp
  refine PySem.call_dict_pairs (knd := mixKind X.prog X.w) (kvs := prs) (PairArg.tuple a (ps.map Value.ref).toArray (fun j => ps[j]?.getD 0) rs) (I.ok.hd hcalm) ⟨⟨o, n, ho, hc, od, hd⟩, by simp [l2], fun j k v e => ?_⟩ ⟨by rw [l1, l2], fun i k v e => ?_⟩ (by rw [l2]; exact hz) fun h' tk hd' kp => ?_
  · obtain ⟨b, key, e1, e2, _⟩ := hq j k v e
    have e5 : s.heap.IsTuple b #[k, v] := e2
    exact ⟨by simp [e1], .inl (by simpa [e1] using e5)⟩
  · obtain ⟨b, key, e1, e2, e3, e4⟩ := hq i k v e
    exact ⟨key, e3, e4⟩
  · have hm : (s.heap.objs.size == sysModules) = false := beq_eq_false_iff_ne.mpr (Nat.ne_of_gt I.big)
    have hlen : (mergeK [] kvs).length ≤ sizeLine := by
      refine Nat.le_trans (length_mergeK kvs []) ?_
      rw [List.length_nil, Nat.zero_add, rel.length, l1]
      exact hz
    exact ⟨.ref s.heap.objs.size, upd H s.heap.objs.size (.dK (mergeK [] kvs)), I.laid (t' := tk) (fun b o e => kp b o (by simp) e) (Nat.le_refl _) (show ObjOk X.prog X.w _ _ _ (.dK (mergeK [] kvs)) from ⟨hlen, hm, merged [] prs, KV.merge rel .nil, hd'⟩), rfl, q _ (I.hok.fresh (Nat.le_refl _))⟩
end
end HX
/-! Own rules: dict(d), text * number. -/
namespace HX
open PySem PySem.Spec PySem.Calls PyProof.Rows L2
section
variable {X : Cx}
/-- dict(d): a new dict of the same pairs -/
def rDictC : List V → Hp → VK → Prop := fun vs H Q => ∃ (a : Addr) (kvs : List (Key × V)), vs = [.ref a] ∧ Rd H a (.dK kvs) ∧ ∀ p, H p = none → Q (.ref p) (upd H p (.dK kvs))
theorem call_dictC : CallR X (.type "dict") rDictC := by
  intro pins s σ H vs us Q I r h
  obtain ⟨a, kvs, rfl, e, q⟩ := h
  rw [Vals.ref1 r]
  exact d_copyOf I e fun p s' hp I' => ⟨.ref p, _, I', rfl, q p hp⟩
/-- a text so many times -/
def times (x : Str) (n : Nat) : Str := ⟨((List.replicate n x.cps.toList).flatten).toArray⟩
theorem times_len (x : Str) (n : Nat) : (times x n).length = n * x.length := by
  show (List.flatten _).toArray.size = n * x.cps.size
  rw [List.size_toArray, List.length_flatten, List.map_replicate, List.sum_replicate_nat, Array.length_toList]
theorem fold_rep (c : Array Nat) : ∀ (n : Nat) (acc : Array Nat), ((List.replicate n c).foldl (· ++ ·) acc).toList = acc.toList ++ (List.replicate n c.toList).flatten
  | 0, acc => by simp
  | n + 1, acc => by
    rw [List.replicate_succ, List.foldl_cons, fold_rep c n, List.replicate_succ, List.flatten_cons, Array.toList_append, List.append_assoc]
def rTimes : R2 := fun x y H Q => ∃ (z : Str) (n : Nat), x = .str z ∧ y = .int (n : Int) ∧ n ≤ 1000 ∧ z.length ≤ 10000 ∧ Q (.str (times z n)) H
theorem op_times : OpR X (binaryOp .Mult) rTimes := by
  intro pins s σ H x y v u Q I rx ry h
  obtain ⟨z, n, rfl, rfl, hn, hz, q⟩ := h
  obtain ⟨t, rfl⟩ := rx
  obtain ⟨t', rfl⟩ := ry
  have hm : z.length * n ≤ 10000 * 1000 := Nat.mul_le_mul hz hn
  refine PySem.P.mul_str (by simp only [Bool.or_eq_false_iff, decide_eq_false_iff_not]; omega) (fun h1 _ => ?_) (fun _ _ => ?_) ?_
  · have h2 : (0 : Int) < (n : Int) := by omega
    have h3 : (z.length : Int) ≤ (2 ^ 63 - 1) / (n : Int) := Int.le_ediv_of_mul_le h2 (by rw [← Int.natCast_mul]; omega)
    omega
  · rw [Int.toNat_natCast]
    show decide (z.length * n > sizeLine) = false
    rw [decide_eq_false_iff_not, sizeLine_eq]
    omega
  · have fin : ∀ (w : Str), w = times z n → w.length ≤ sizeLine ∧ EP X pins σ Q (.str w s.toks) { s with toks := s.toks + 1 } := fun w e => by
      subst e
      refine ⟨?_, .str (times z n), H, I.tok _, ⟨_, rfl⟩, q⟩
      rw [times_len, Nat.mul_comm, sizeLine_eq]
      omega
    by_cases h0 : n = 0
    · subst h0
      rw [if_pos (by decide)]
      exact fin _ rfl
    · rw [if_neg (show ¬ ((n : Int) < 1) by omega)]
      by_cases h1 : ((n : Int) == 1 || z.length == 0) = true
      · rw [if_pos h1]
        have e : z = times z n := by
          rcases Bool.or_eq_true_iff.mp h1 with h | h
          · have : n = 1 := by have := eq_of_beq h; omega
            subst this
            show z = ⟨([z.cps.toList].flatten).toArray⟩
            simp
          · have hz0 : z.cps = #[] := Array.size_eq_zero_iff.mp (eq_of_beq h)
            show z = ⟨((List.replicate n z.cps.toList).flatten).toArray⟩
            rw [hz0]
            obtain ⟨c⟩ := z
            simp only at hz0
            subst hz0
            congr 1
            induction n with
            | zero => rfl
            | succ m ih =>
              rw [List.replicate_succ, List.flatten_cons]
              by_cases hm0 : m = 0
              · subst hm0; rfl
              · simp
        exact ⟨.str (times z n), H, I, ⟨t, by rw [← e]⟩, q⟩
      · rw [if_neg h1]
        refine fin _ ?_
        show (⟨_⟩ : Str) = ⟨_⟩
        congr 1
        apply Array.toList_inj.mp
        rw [Int.toNat_natCast, fold_rep]
        simp
end
end HX
/-! Own layer: a def's promise where nothing is being shown by repr around it (FnG), so that repr of lists and tuples can be read. -/
namespace HG
open PySem PySem.Spec PySem.Calls PyProof.Rows L2
/-- nothing is being shown -/
abbrev Shut (A : Around) : Prop := A.guards = some []
structure FnG (P : Program) (w : World) (K : PySem.W.Frag) (mg : Str → Option Value) (base : Heap) (CX : CXT) (k : Nat) (f : Addr) (fd : FuncData) (ps : List Str) (sp : Sp) : Prop where
  len : ∀ vs H Q E, sp vs H Q E → vs.length = ps.length
  go : ∀ (A : Around) (fr : List Env) (s : Shared) (H : Hp) (ar : Args) (us : List Value) (vs : List V) (Q : VK) (E : XK), Shut A → Room k A → Env0 P w K mg base A fr s H →
    BindsTo s fd ar (ps.zip us) → Vals vs us → sp vs H Q E → codeAny (model P w) A (.call (.ref f) ar) (CR CX fr P w H s Q E) s
section
variable {P : Program} {w : World} {K : PySem.W.Frag} {mg : Str → Option Value} {base : Heap} {CX : CXT} {j k : Nat} {f : Addr} {fd : FuncData} {ps : List Str} {sp sp' : Sp}
theorem FnG.of (F : FnOk P w K mg base CX k f fd ps sp) : FnG P w K mg base CX k f fd ps sp :=
  ⟨F.len, fun A fr s H ar us vs Q E _ hr e0 hb hv hs => F.run A fr s H ar us vs Q E hr e0 hb hv hs⟩
theorem FnG.mono (F : FnG P w K mg base CX j f fd ps sp) (h : j ≤ k) : FnG P w K mg base CX k f fd ps sp :=
  ⟨F.len, fun A fr s H ar us vs Q E g hr => F.go A fr s H ar us vs Q E g (hr.mono h)⟩
theorem FnG.imp (F : FnG P w K mg base CX k f fd ps sp) (h : ∀ vs H Q E, sp' vs H Q E → sp vs H Q E) : FnG P w K mg base CX k f fd ps sp' :=
  ⟨fun vs H Q E q => F.len vs H Q E (h _ _ _ _ q), fun A fr s H ar us vs Q E g hr e0 hb hv hs => F.go A fr s H ar us vs Q E g hr e0 hb hv (h _ _ _ _ hs)⟩
end
section
variable {X : Cx} {CX : CXT} {k : Nat} {f C : Addr} {fd : FuncData} {ps ks : List Str} {sp : Sp} {dvs : List V} {ds : List Value} {E : XK} {x m : Str} {p pos apos : Pos} {e o : Expr} {es : List Expr} {ta : TE} {t : TA} {kws : List Keyword} {tk : TA}
theorem go_fn {pins : List (Addr × Obj)} {σ : L2.St} {H : Hp} {s : Shared} {Q : VK} {us : List Value} {vs : List V} (F : FnG X.prog X.w X.K X.mg X.base CX k f fd ps sp) (sh : Shut X.A) (hr : Room k X.A) (hb : L2.Binds X.K fd ps ds) (hd : Vals dvs ds)
    (hx : Passes CX X E) (I : Inv X pins σ H s) (r : Vals vs us) (h : sp (vs ++ dvs) H Q E) : wpAny (model X.prog X.w) X.A (call (.ref f) us) (EP X pins σ Q) X.xe s := by
  have r2 : Vals (vs ++ dvs) (us ++ ds) := r.append hd
  have hl := r2.length.symm.trans (F.len _ _ _ _ h)
  have one := F.go X.A X.stack s H ⟨us, []⟩ (us ++ ds) (vs ++ dvs) Q E sh hr I.env0 (hb s us I.kIn hl) r2 h
  refine wpAny_call (codeAny_mono one fun res s' hq => ?_)
  match res, hq with
  | .error e, hq => exact hx pins σ H s e s' I hq
  | .ok (.ret u), hq => exact I.after hq
theorem pe_callG (F : FnG X.prog X.w X.K X.mg X.base CX k f fd ps sp) (sh : Shut X.A) (hr : Room k X.A) (hg : Gl X x) (hm : X.mg x = some (.ref f)) (hk : PySem.W.keepIn X.K (.ref f) = true) (hb : L2.Binds X.K fd ps ds) (hd : Vals dvs ds)
    (hx : Passes CX X E) (ha : PA X (e :: es) t) (hdb : (x == ("__debug__" : Str)) = false := by decide) (he : starEach (e :: es) X.env = (false, eval e X.env) :: starEach es X.env := by rfl)
    (hpl : (backTo pos (starEach es X.env)).any (·.1) = false := by rfl) : PE X (.Call (.Name x p) (e :: es) [] pos) (tCall sp dvs E t) := by
  constructor
  intro pins s σ H Q I h
  apply wpAny_Call_Name_kw
  apply ld_glob I hg hm _ hdb
  exact PySem.W.callWith_K (h₀ := X.base) I.ok.mod.kin hk (thn (ha.run pos pins s σ H _ I h) fun us s1 ⟨vs, H1, I1, r, q⟩ => ⟨I1.kIn, go_fn F sh hr hb hd hx I1 r q⟩) he hpl
theorem pe_callG0 (F : FnG X.prog X.w X.K X.mg X.base CX k f fd ps sp) (sh : Shut X.A) (hr : Room k X.A) (hg : Gl X x) (hm : X.mg x = some (.ref f)) (hk : PySem.W.keepIn X.K (.ref f) = true) (hb : L2.Binds X.K fd ps ds) (hd : Vals dvs ds)
    (hx : Passes CX X E) (hdb : (x == ("__debug__" : Str)) = false := by decide) : PE X (.Call (.Name x p) [] [] pos) (tCall sp dvs E tNil) := by
  constructor
  intro pins s σ H Q I h
  apply wpAny_Call_Name_kw
  apply ld_glob I hg hm _ hdb
  exact PySem.W.callWith_K0 I.kIn hk (go_fn (us := []) F sh hr hb hd hx I .nil h)
theorem pe_methG {pl : Sem Bool} (he : PE X o ta) (c : Cls X.K C) (hm : Meth X.K C m f) (F : FnG X.prog X.w X.K X.mg X.base CX k f fd ps sp) (sh : Shut X.A) (hr : Room k X.A) (hb : L2.Binds X.K fd ps ds) (hd : Vals dvs ds) (hx : Passes CX X E) (ha : PA X (e :: es) t)
    (hst : starEach (e :: es) X.env = (false, eval e X.env) :: starEach es X.env := by rfl) (hpl : (backTo pos (starEach es X.env)).any (·.1) = false := by rfl)
    (ht : eval (.Call (.Attribute o m apos) (e :: es) [] pos) X.env = (eval o X.env >>= fun ov => standAt apos.atName >>= fun _ => holding [ov] (getMethod ov m pl) >>= fun fa =>
      callWith pos fa.1 fa.2 (backTo pos (starEach (e :: es) X.env)) (backToKw pos (keywordEach [] X.env))) := by rfl) : PE X (.Call (.Attribute o m apos) (e :: es) [] pos) (tMeth C m sp dvs E ta t) := by
  constructor
  intro pins s σ H Q I h
  refine PySem.W.methodCall_KW (pl := pl) (thn (he.run pins s σ H _ I h) fun u s1 ⟨y, H1, I1, rx, a, dx, fs, ex, ea, l, q⟩ => ?_) ht
  subst ex
  have eu : u = Value.ref a := rx
  subst eu
  refine getmeth_ok I1 ea c hm l ?_
  exact PySem.W.callWith_K (first := [.ref a]) (h₀ := X.base) I.ok.mod.kin hm.kp (thn (ha.run pos pins s1 σ H1 _ I1 q) fun us s2 ⟨vs, H2, I2, r, q2⟩ => ⟨I2.kIn, go_fn (us := .ref a :: us) (vs := .ref a :: vs) F sh hr hb hd hx I2 (.cons rfl r) q2⟩) hst hpl
theorem pe_methG0 {pl : Sem Bool} (he : PE X o ta) (c : Cls X.K C) (hm : Meth X.K C m f) (F : FnG X.prog X.w X.K X.mg X.base CX k f fd ps sp) (sh : Shut X.A) (hr : Room k X.A) (hb : L2.Binds X.K fd ps ds) (hd : Vals dvs ds) (hx : Passes CX X E)
    (ht : eval (.Call (.Attribute o m apos) [] [] pos) X.env = (eval o X.env >>= fun ov => standAt apos.atName >>= fun _ => holding [ov] (getMethod ov m pl) >>= fun fa =>
      callWith pos fa.1 fa.2 (backTo pos (starEach [] X.env)) (backToKw pos (keywordEach [] X.env))) := by rfl) : PE X (.Call (.Attribute o m apos) [] [] pos) (tMeth C m sp dvs E ta tNil) := by
  constructor
  intro pins s σ H Q I h
  refine PySem.W.methodCall_KW (pl := pl) (thn (he.run pins s σ H _ I h) fun u s1 ⟨y, H1, I1, rx, a, dx, fs, ex, ea, l, q⟩ => ?_) ht
  subst ex
  have eu : u = Value.ref a := rx
  subst eu
  refine getmeth_ok I1 ea c hm l ?_
  exact PySem.W.callWith_K0 (first := [.ref a]) I1.kIn hm.kp (go_fn (us := [.ref a]) (vs := [.ref a]) F sh hr hb hd hx I1 (.cons rfl .nil) q)
end
section
variable {P : Program} {w : World} {K : PySem.W.Frag} {mg : Str → Option Value} {base : Heap}
/-- a def of the text: its body, nothing being shown around it -/
theorem okG {x qual : Str} {st : Stmt} {f : Addr} {fd : FuncData} {N ps : List Str} {k : Nat} {sp : Sp} {CX : CXT} (F : Fun K x qual st f fd) (S : FnScope N ps (defScope st)) (len : ∀ vs H Q E, sp vs H Q E → vs.length = ps.length)
    (body : ∀ (cdv : Value) (A : Around) (fr : List Env) (s : Shared) (H : Hp) (vs : List V) (Q : VK) (E : XK), Shut (A.deeper (envOfC qual (defScope st) s.heap.objs.size f cdv)) → Room k (A.deeper (envOfC qual (defScope st) s.heap.objs.size f cdv)) → sp vs H Q E →
      ∃ t, PSs (cxOf CX P w K mg base N qual (defScope st) f cdv A fr s H E) (defBody st) t ∧ t { nx := fun _ H' => Q .non H', rt := Q } (start N vs) H) : FnG P w K mg base CX (k + 1) f fd ps sp := by
  obtain ⟨oc, od, kV, doc, pm, an, cdv, ct, osl, rfl, lk, hcd⟩ := F.ex
  refine ⟨len, fun A fr s H ar us vs Q E sh hr e0 hb r hsp => ?_⟩
  have KX : K.In s.heap := e0.mod.kin.keeps fun b o e => (e0.bs b o e).1
  have lim : s.heap.NoLimit := e0.mod.nolimit.keeps fun b o e => (e0.bs b o e).1
  have kinds : ∀ y ∈ ps.zip us, (defScope st).names.lookup y.1 = some .local ∨ ((defScope st).names.lookup y.1 = some .cell ∧ ((cellsFrom (s.heap.objs.size + 1) (defScope st).names []).lookup y.1).isSome = true) := by
    rintro ⟨n, v⟩ hy
    exact (S.par n (List.of_mem_zip hy).1).imp id fun q => ⟨q, PySem.W.cellsFrom_some _ _ _ (.inl q)⟩
  refine codeAny_call_function hr.depth (KX _ _ lk) rfl S.co S.gen rfl (PySem.W.codeRec_of KX hcd) (hb _ _ _ _ ?_)
  refine wpAny_newFunctionEnv_cells S.kind kinds fun env he s1 y => ?_
  subst he
  refine ⟨lim.keeps y.toInCall.keep, codeAny_func ?_⟩
  obtain ⟨t, ht, hq⟩ := body cdv A fr s H vs Q E sh (hr.deeper _) hsp
  have I : Inv (cxOf CX P w K mg base N qual (defScope st) f cdv A fr s H E) [] (start N vs) H s1 := inv_start S hr.hd e0 (len _ _ _ _ hsp) r y
  refine wpAny_mono (ht.run [] s1 (start N vs) H _ I hq) (fun fl s' hs => ?_) fun _ _ hs => hs
  match fl, hs with
  | .ret u, ⟨v, _, H', J, rv, q⟩ => exact ⟨v, H', J.os, J.bare, J.base, J.hok, rv, q⟩
  | .next, ⟨_, H', J, q⟩ => exact ⟨V.non, H', J.os, J.bare, J.base, J.hok, rfl, q⟩
  | .brk, ⟨_, _, _, q⟩ => exact q.elim
  | .cont, ⟨_, _, _, q⟩ => exact q.elim
/-- .. where nothing is raised -/
theorem okGn {x qual : Str} {st : Stmt} {f : Addr} {fd : FuncData} {N ps : List Str} {k : Nat} {sp : Sp} {CX : CXT} (F : Fun K x qual st f fd) (S : FnScope N ps (defScope st)) (len : ∀ vs H Q E, sp vs H Q E → vs.length = ps.length)
    (body : ∀ (cdv : Value) (A : Around) (fr : List Env) (s : Shared) (H : Hp) (vs : List V) (Q : VK) (E : XK), Shut (A.deeper (envOfC qual (defScope st) s.heap.objs.size f cdv)) → Room k (A.deeper (envOfC qual (defScope st) s.heap.objs.size f cdv)) → sp vs H Q E →
      ∃ t, PSs (cxOf CX P w K mg base N qual (defScope st) f cdv A fr s H E).nox (defBody st) t ∧ t { nx := fun _ H' => Q .non H', rt := Q } (start N vs) H) : FnG P w K mg base CX (k + 1) f fd ps sp :=
  okG F S len fun cdv A fr s H vs Q E sh hr h => let ⟨t, h1, h2⟩ := body cdv A fr s H vs Q E sh hr h; ⟨t, h1.nox, h2⟩

end

/-- the law's own call, over what the top has left -/
theorem law_callG {P : Program} {w : World} {K : PySem.W.Frag} {mg mb : Str → Option Value} {CX : CXT} {k : Nat} {fa a : Addr} {fd : FuncData} {x : Str} {sp : Sp} {s₁ : Shared} {vs : List Value} {ns : List Int}
    (KX : K.In s₁.heap) (hns : s₁.heap.Ns mainGlobals mg) (hb : s₁.heap.Ns builtinsNs mb) (hbb : ∀ x : Str, x ≠ "__name__" → mb x = bootBuiltins x) (hlim : s₁.heap.NoLimit) (hg : s₁.gens = #[])
    (ha : s₁.heap.get? a = some { cls := .type "list", data := .seq vs.toArray }) (hi : IntsAre vs ns) (hl : ns.length ≤ sizeLine) (hr : Room k callerA)
    (F : ∀ base : Heap, K.In base → base.Ns mainGlobals mg → FnG P w K mg base CX k fa fd [x] sp) (hbind : ∀ (s : Shared) (u : Value), BindsTo s fd ⟨[u], []⟩ [(x, u)])
    (hsp : ∀ H : Hp, Only H → SqL K H a (ns.map V.int) → sp [.ref a] H (fun v _ => v = .bl true) fun _ _ _ => False) (hCX : ∀ H e s', CX [] H s₁ (fun _ _ _ => False) e s' → False) :
    codeAny (model P w) callerA (.call (.ref fa) ⟨[.ref a], []⟩) (fun r s' => r = .ok (.ret (.bool true)) ∧ OldK s₁.heap s'.heap ∧ s'.os = s₁.os ∧ AllBare s'.gens) s₁ := by
  have rv := vals_ints hi
  have lenV := hi.length
  have core : ∀ H : Hp, Only H → SqL K H a (ns.map V.int) → HOk P w H s₁.heap → (∀ b, H b ≠ none → b = a) → (H a ≠ none → K.lookup a = none) →
      codeAny (model P w) callerA (.call (.ref fa) ⟨[.ref a], []⟩) (fun r s' => r = .ok (.ret (.bool true)) ∧ OldK s₁.heap s'.heap ∧ s'.os = s₁.os ∧ AllBare s'.gens) s₁ := by
    intro H hO hS hok hA hK
    have dictless : ∀ {b : Addr} {o : Obj} {es : Array DictEntry} {ep : Nat}, s₁.heap.get? b = some o → o.data = .dict es ep → H b = none := by
      intro b o es ep e d
      match q : H b with
      | none => rfl
      | some u =>
        have e' := hA b (by rw [q]; simp)
        subst e'
        rw [ha] at e
        cases e
        exact absurd d (by simp)
    have nsK : ∀ {b : Addr} {m : Str → Option Value}, s₁.heap.Ns b m → (hidT s₁.heap H).Ns b m := fun ⟨o, es, ep, e, d, r⟩ => ⟨o, es, ep, hidT_get e (dictless e d), d, r⟩
    have hKb : K.In (hidT s₁.heap H) := by
      intro b o e
      refine hidT_get (KX b o e) ?_
      match q : H b with
      | none => rfl
      | some u =>
        have e' := hA b (by rw [q]; simp)
        subst e'
        rw [hK (by rw [q]; simp)] at e
        cases e
    obtain ⟨mc, lim1, lim2⟩ := hlim
    have e0 : Env0 P w K mg (hidT s₁.heap H) callerA [] s₁ H :=
      ⟨rfl, ⟨hKb, nsK hns, ⟨mb, nsK hb, hbb⟩, ⟨mc, nsK lim1, lim2⟩⟩, fun _ _ e => of_hidT e, Nat.le_of_eq (hidT_size _ _), trivial, fun b z => absurd (show b ∈ ([] : List Addr) from z) (by simp), hok, .of_eq hg⟩
    refine codeAny_mono ((F _ hKb (nsK hns)).go callerA [] s₁ H ⟨[.ref a], []⟩ [.ref a] [.ref a] _ _ rfl hr e0 (hbind s₁ (.ref a)) (.cons rfl .nil) (hsp H hO hS)) fun r s' h => ?_
    match r, h with
    | .error e, h => exact (hCX H e s' h).elim
    | .ok (.ret u), ⟨v, H', os, bare, un, hok', r', q⟩ =>
      have q' : v = .bl true := q
      subst q'
      have eu : u = Value.bool true := r'
      subst eu
      refine ⟨rfl, OldK.of_keep fun b o e => ?_, os, bare⟩
      match q : H b with
      | none => exact un.keep b o e q (fun z => absurd (show b ∈ ([] : List Addr) from z) (by simp)) (by simp)
      | some u =>
        rcases hO b with z | ⟨ob, xs, z⟩
        · rw [q] at z
          cases z
        · have e1 := (hok b _ z).1
          have e2 := (hok' b _ (un.frzs b ob _ z)).1
          rw [e] at e1
          cases e1
          exact e2
  match hk : K.lookup a with
  | some o =>
    have e := KX a o hk
    rw [ha] at e
    cases e
    exact core (fun _ => none) (fun _ => .inl rfl) (.inr ⟨_, vs.toArray, _, hk, rfl, rfl, rfl, by rw [List.size_toArray, lenV]; exact hl, by simpa using rv⟩) (fun b u z => by have z' : (none : Option HO) = some u := z; cases z') (fun b z => absurd rfl z) fun z => absurd rfl z
  | none =>
    have at_a : ∀ b, b = a → (fun c => if c = a then some (HO.frz { cls := .type "list", data := .seq vs.toArray } (.lst (ns.map V.int))) else none : Hp) b = some (.frz { cls := .type "list", data := .seq vs.toArray } (.lst (ns.map V.int))) := fun b hb => if_pos hb
    have off_a : ∀ b, b ≠ a → (fun c => if c = a then some (HO.frz { cls := .type "list", data := .seq vs.toArray } (.lst (ns.map V.int))) else none : Hp) b = none := fun b hb => if_neg hb
    refine core (fun c => if c = a then some (HO.frz { cls := .type "list", data := .seq vs.toArray } (.lst (ns.map V.int))) else none) (fun b => ?_) (.inl (.inr ⟨_, at_a a rfl⟩)) (fun b u z => ?_) (fun b z => ?_) fun _ => hk
    · by_cases hb : b = a
      · exact .inr ⟨_, _, at_a b hb⟩
      · exact .inl (off_a b hb)
    · by_cases hb : b = a
      · rw [at_a b hb] at z
        cases z
        subst hb
        exact ⟨ha, by rw [List.length_map]; exact hl, vs, _, rv, ha⟩
      · rw [off_a b hb] at z
        cases z
    · by_cases hb : b = a
      · exact hb
      · exact absurd (off_a b hb) z
theorem walk_ofG {l : PySem.W.OpenLaw} {n k : Nat} {q : Program} {loose : List Str} {XP : (Str → Option Value) → Heap → Prop} {YP : World → Heap → Prop} {d : DefRec} {K : Params → PySem.W.Frag} {CX : World → CXT} {sp : World → Sp} {x : Str}
    (hn : l.most = some n) (hn2 : n ≤ sizeLine) (hdf : d.params.defaults = []) (hr : Room k callerA) (hY : ∀ (w : World) (h : Heap), YP w h → (K w.params).In h)
    (F : ∀ (w : World) (mg : Str → Option Value) (fa : Addr) (h : Heap), (K w.params).In h → h.Ns mainGlobals mg → mg d.name = some (.ref fa) →
      ∃ fd : FuncData, (∀ (s : Shared) (u : Value), BindsTo s fd ⟨[u], []⟩ [(x, u)]) ∧ ∀ base : Heap, (K w.params).In base → base.Ns mainGlobals mg → FnG l.prog w (K w.params) mg base (CX w) k fa fd [x] (sp w))
    (hsp : ∀ (w : World) (H : Hp) (a : Addr) (ns : List Int), ns.length ≤ n → Only H → SqL (K w.params) H a (ns.map V.int) → sp w [.ref a] H (fun v _ => v = .bl true) fun _ _ _ => False)
    (hCX : ∀ (w : World) (H : Hp) (s : Shared) (e : Value) (s' : Shared), CX w [] H s (fun _ _ _ => False) e s' → False) : PySem.W.WalkO q loose XP YP l.row.toRowW d [] (fun f vs => PySem.call f vs) := by
  refine Att.attach_call hn hdf ?_
  intro w s₀ s₁ mg mb fa o pm cd doc a vs ns G Y _ _ _ hmg hobj hints hlen hg
  obtain ⟨fd, hb, hF⟩ := F w mg fa _ (hY w _ Y) G.T.g hmg
  exact law_callG (hY w _ Y) G.T.g G.T.b G.T.builtins G.T.nolimit hg hobj hints (Nat.le_trans hlen hn2) hr hF hb (fun H hO hS => hsp w H a ns hlen hO hS) (hCX w · s₁ · ·)
/-! ### repr of data -/
def rRepr (K : PySem.W.Frag) : List V → Hp → VK → Prop := fun vs H Q => ∃ (x : V) (d : PyData), vs = [x] ∧ Dp K H x d ∧ isDisplay d = true ∧ d.showable = true ∧ d.hasDict = false ∧ d.depth ≤ 60 ∧ d.shown.length ≤ sizeLine ∧ Q (.str d.shown) H
section
variable {X : Cx}
theorem call_reprD (sh : Shut X.A) (hu : X.A.units + 64 < cLine) : CallR X (.builtin "repr") (rRepr X.K) := by
  intro pins s σ H vs us Q I r h
  obtain ⟨x, d, rfl, hd, di, sw, nd, dep, len, q⟩ := h
  obtain ⟨u, rfl, rx⟩ := vals1 r
  obtain ⟨as, r1⟩ := Dp.reads I d x u hd rx
  obtain ⟨a, rfl⟩ := isRef_of_reads r1 di
  exact repr_of_reads' r1 sw (PyData.noDict_hsm nd) sh (by omega) (fun _ _ e => e) (fun h' u tk hk => ⟨.str d.shown, H, I.kept hk, ⟨u, rfl⟩, q⟩) len
end
end HG
/-! Own short words. -/
namespace HB
open PySem PySem.Spec PyProof.Rows L2
/-- a def of the top, bound under its name -/
structure Df (K : PySem.W.Frag) (mg : Str → Option Value) (nm qual : Str) (st : Stmt) (ps : List Str) (f : Addr) (fd : FuncData) : Prop where
  F : Fun K nm qual st f fd
  b : L2.Binds K fd ps []
  g : mg nm = some (.ref f)
section
variable {X : Cx} {k : Nat} {f : Addr} {fd : FuncData} {ps : List Str} {sp : Sp} {x qual : Str} {st : Stmt} {p pos : Pos} {e : Expr} {es : List Expr} {t : TA}
theorem pcall (D : Df X.K X.mg x qual st ps f fd) (G : FnOk X.prog X.w X.K X.mg X.base CX0 k f fd ps sp) (hr : Room k X.A) (hg : Gl X x) (ha : PA X (e :: es) t) (hdb : (x == ("__debug__" : Str)) = false := by decide)
    (he : starEach (e :: es) X.env = (false, eval e X.env) :: starEach es X.env := by rfl) (hpl : (backTo pos (starEach es X.env)).any (·.1) = false := by rfl) : PE X (.Call (.Name x p) (e :: es) [] pos) (tCall sp [] E0 t) :=
  pe_call G hr hg D.g D.F.kp D.b .nil pass0 ha hdb he hpl
theorem pcall0 (D : Df X.K X.mg x qual st ps f fd) (G : FnOk X.prog X.w X.K X.mg X.base CX0 k f fd ps sp) (hr : Room k X.A) (hg : Gl X x) (hdb : (x == ("__debug__" : Str)) = false := by decide) : PE X (.Call (.Name x p) [] [] pos) (tCall sp [] E0 tNil) :=
  pe_call0 G hr hg D.g D.F.kp D.b .nil pass0 hdb
theorem gcall (D : Df X.K X.mg x qual st ps f fd) (G : HG.FnG X.prog X.w X.K X.mg X.base CX0 k f fd ps sp) (sh : HG.Shut X.A) (hr : Room k X.A) (hg : Gl X x) (ha : PA X (e :: es) t) (hdb : (x == ("__debug__" : Str)) = false := by decide)
    (he : starEach (e :: es) X.env = (false, eval e X.env) :: starEach es X.env := by rfl) (hpl : (backTo pos (starEach es X.env)).any (·.1) = false := by rfl) : PE X (.Call (.Name x p) (e :: es) [] pos) (tCall sp [] E0 t) :=
  HG.pe_callG G sh hr hg D.g D.F.kp D.b .nil pass0 ha hdb he hpl
/-- a written text or number of the module -/
theorem pe_gs {z : Str} (hg : Gl X x) (hm : ∃ t : Tok, X.mg x = some (.str z t)) (hdb : (x == ("__debug__" : Str)) = false := by decide) : PE X (.Name x pos) (tC (.str z)) := let ⟨t, h⟩ := hm; pe_glob hg h ⟨t, rfl⟩ (hd := hdb)
theorem pe_gi {i : Int} (hg : Gl X x) (hm : ∃ t : Tok, X.mg x = some (.int i t)) (hdb : (x == ("__debug__" : Str)) = false := by decide) : PE X (.Name x pos) (tC (.int i)) := let ⟨t, h⟩ := hm; pe_glob hg h ⟨t, rfl⟩ (hd := hdb)
theorem pe_gr {a : Addr} (hg : Gl X x) (hm : X.mg x = some (.ref a)) (hdb : (x == ("__debug__" : Str)) = false := by decide) : PE X (.Name x pos) (tC (.ref a)) := pe_glob hg hm rfl (hd := hdb)
end
/-! ### heaps -/
theorem same_upd {H : Hp} {p : Addr} {o : HO} (h : H p = none) : Same H (upd H p o) := fun b x e => by
  rw [upd_ne (ne_of_none e h)]
  exact e
theorem _root_.L2.Same.sqt {K : PySem.W.Frag} {H H' : Hp} {a : Addr} {xs : List V} (e : Same H H') (h : SqT K H a xs) : SqT K H' a xs := Evl.ex_t e h
theorem _root_.L2.Same.own {H H' : Hp} {D : Addr} {o : HO} (e : Same H H') (n : H D = none) : Same H (upd H' D o) := fun b x hb => by
  rw [upd_ne (ne_of_none hb n)]
  exact e _ _ hb
theorem sl {K : PySem.W.Frag} {H : Hp} {a : Addr} {xs : List V} (h : H a = some (.lst xs)) : SqL K H a xs := .inl (.inl h)
theorem stt {K : PySem.W.Frag} {H : Hp} {a : Addr} {xs : List V} (h : H a = some (.tup xs)) : SqT K H a xs := .inl (.inl h)
theorem ite1 {b : Bool} {A B : Prop} (e : b = true) (h : A) : if b = true then A else B := by rw [if_pos e]; exact h
theorem ite0 {b : Bool} {A B : Prop} (e : b = false) (h : B) : if b = true then A else B := by rw [if_neg (by rw [e]; decide)]; exact h
mutual
theorem _root_.L2.Same.dp {K : PySem.W.Frag} {H H' : Hp} (e : Same H H') : ∀ {v : V} {d : PyData}, Dp K H v d → Dp K H' v d
  | _, _, .non => .non
  | _, _, .bl b => .bl b
  | _, _, .int i => .int i
  | _, _, .str x => .str x
  | _, _, .lst h k => .lst (e.seq h) (L2.Same.dpAll e k)
  | _, _, .tup h k => .tup (L2.Same.sqt e h) (L2.Same.dpAll e k)
theorem _root_.L2.Same.dpAll {K : PySem.W.Frag} {H H' : Hp} (e : Same H H') : ∀ {vs : List V} {ds : List PyData}, DpAll K H vs ds → DpAll K H' vs ds
  | _, _, .nil => .nil
  | _, _, .cons h k => .cons (L2.Same.dp e h) (L2.Same.dpAll e k)
end
/-! ### a def that calls itself: by the depth -/
section
variable {P : Program} {w : World} {K : PySem.W.Frag} {mg : Str → Option Value} {base : Heap} {CX : CXT} {f : Addr} {fd : FuncData} {ps : List Str}
def spR (sp : Nat → Sp) : Nat → Sp
  | 0 => fun _ _ _ _ => False
  | n + 1 => sp n
theorem rec_fn {sp : Nat → Sp} {c : Nat} (step : ∀ n, FnOk P w K mg base CX (n + c) f fd ps (spR sp n) → FnOk P w K mg base CX (n + c + 1) f fd ps (sp n)) : ∀ n, FnOk P w K mg base CX (n + c + 1) f fd ps (sp n)
  | 0 => step 0 ⟨fun _ _ _ _ h => h.elim, fun _ _ _ _ _ _ _ _ _ _ _ _ _ h => h.elim⟩
  | n + 1 => step (n + 1) (by
    have h := rec_fn step n
    rwa [show n + c + 1 = n + 1 + c by omega] at h)
end
end HB
namespace HX
open PySem PySem.Spec PySem.Calls PyProof.Rows L2
/-- d.update(e) of another dict -/
def tDUpd (td te : TE) : TE := fun σ H Q => td σ H fun x H1 => ∃ a, x = .ref a ∧ IsD H1 a ∧ te σ H1 fun y H2 => ∃ (b : Addr) (kvs more : List (Key × V)), y = .ref b ∧ a ≠ b ∧ H2 a = some (.dK kvs) ∧ H2 b = some (.dK more) ∧
  kvs.length + more.length ≤ sizeLine ∧ Q .non (upd H2 a (.dK (mergeK kvs more)))
section
variable {X : Cx} {o e : Expr} {td te : TE} {apos cpos : Pos}
theorem pe_dupd (ho : PE X o td) (he : PE X e te) (m : M1 X o "update" apos e cpos) : PE X (.Call (.Attribute o "update" apos) [e] [] cpos) (tDUpd td te) := by
  refine ⟨fun pins s σ H Q I h => ?_⟩
  refine wpAny_Call_method m.base m.few m.line PySem.F.plainAttrs_dict PySem.F.slot_dict_update PySem.F.type_dict_update (thn (ho.run pins s σ H _ I h) fun u s1 ⟨x, H1, I1, rx, a, ex, d, q1⟩ => ?_)
  subst ex
  obtain rfl : u = Value.ref a := rx
  obtain ⟨t1, t2, _⟩ := isD_at I1 d
  refine ⟨t1, t2, ?_⟩
  rw [m.trees]
  refine Calls.callWith_builtin rfl (Calls.evalArgs_plain (Calls.spliced_cons (thn (he.run pins s1 σ H1 _ I1 q1) fun iv s2 ⟨y, H2, I2, ry, b, kvs, more, ey, hab, ea, eb, hl, q⟩ => Calls.spliced_nil ?_)))
  subst ey
  obtain rfl : iv = Value.ref b := ry
  obtain ⟨za, ya, vs, rel, da⟩ := dk_of I2.hok ea
  obtain ⟨zb, yb, us, rel2, db⟩ := dk_of I2.hok eb
  have e1 := rel.length
  have e2 := rel2.length
  refine call_meetsIn PySem.F.slot_dict_update da.typeIs PySem.F.entry_dict_update (PySem.F.args_dict_update_2 _ _) (meets_dict_update (mixKind X.prog X.w) a b hab yb)
    ⟨vs, us, da, db, by omega, fun h' dd' _ hs => ?_⟩
  have hl2 : (mergeK kvs more).length ≤ sizeLine := Nat.le_trans (length_mergeK more kvs) hl
  have hex : ∃ q, h'.get? a = some q := let ⟨q, _, _, hq, _⟩ := dd'; ⟨q, hq⟩
  exact ⟨.non, _, d_write (t' := s2.toks) I2 (by rw [ea]; exact True.intro) hs hex (dk_new hl2 ya (KV.merge rel2 rel) dd'), rfl, q⟩
end
end HX
/-! sum(lists, []) -/
namespace HX
open PySem PySem.Spec PySem.Calls PyProof.Rows L2
open Sem (wp)
abbrev lo (its : List Value) (n : Nat) : Obj := { cls := .type "list", data := .seq its.toArray n }
section
variable {prog : Program} {w : World} {A : Around} {R : Result → Shared → Prop}
/-- the places of lists, and what they hold -/
inductive Lists (h : Heap) : List Addr → List (List Value) → Prop
  | nil : Lists h [] []
  | cons {b : Addr} {its : List Value} {n : Nat} {bs : List Addr} {xs : List (List Value)} : h.get? b = some (lo its n) → Lists h bs xs → Lists h (b :: bs) (its :: xs)
theorem Lists.keeps {h h' : Heap} {bs : List Addr} {xs : List (List Value)} (L : Lists h bs xs) (k : ∀ b o, b ∈ bs → h.get? b = some o → h'.get? b = some o) : Lists h' bs xs := by
  induction L with
  | nil => exact .nil
  | cons e _ ih => exact .cons (k _ _ (List.mem_cons_self ..) e) (ih fun b o hb => k b o (List.mem_cons_of_mem _ hb))
theorem sum_loop (hh : A.handled = none) (I l S : Addr) (all : List Addr) (hIl : l ≠ I) (hSI : S ≠ I) (hSl : S ≠ l) :
    ∀ (bs : List Addr) (xs : List (List Value)) (pre : List Addr) (s : Shared) (T : Addr) (acc : List Value) (m c : Nat) (N : Nat), all = pre ++ bs → N ≤ s.heap.objs.size → I ∉ bs → S ∉ bs →
      s.heap.IsListIter I l pre.length → s.heap.IsList l (all.map Value.ref).toArray → Lists s.heap bs xs → s.heap.get? S = some { cls := .type "list", dict := none, data := .seq #[.ref T] c, slots := #[] } → s.heap.get? T = some (lo acc m) →
      T ≠ S → T ≠ I → (acc ++ xs.flatten).length ≤ sizeLine →
      (∀ (h' : Heap) (T' : Addr) (m' : Nat), (∀ b o, b ≠ I → b ≠ S → s.heap.get? b = some o → h'.get? b = some o) → ((bs = [] ∧ T' = T) ∨ N ≤ T') → h'.get? T' = some (lo (acc ++ xs.flatten) m') → R (.ok (.ret (.ref T'))) { s with heap := h' }) →
      codeAny (model prog w) A (.builtin "sum.loop" ⟨[.ref I, .ref S, rawInt 2, rawInt 0], []⟩) R s := by
  intro bs
  induction bs with
  | nil =>
    intro xs pre s T acc m c N hall hN hI hS hit hl hL hSo hTo hTS hTI hz hR
    cases hL
    refine codeAny_builtin F.entry_sum_loop ?_
    rw [Around.under_plainId F.plain_sum_loop _]
    show wpAny _ A.in1 (seqItems? (.ref S) >>= _) _ _ s
    refine wpAny_bind (wpAny_seqItems hSo rfl ?_)
    show wpAny _ A.in1 (tryCatch (pyNext (.ref I)) _ >>= _) _ _ s
    refine wpAny_bind (wpAny_tryCatch (wpAny_pyNext_list_end hh hit hl (by rw [hall]; simp) fun h' he => ?_))
    refine wpAny_pure (hR h' T m (fun b o hb _ e => he b o hb e) (.inl ⟨rfl, rfl⟩) ?_)
    simpa using he T _ hTI hTo
  | cons b bs ih =>
    intro xs pre s T acc m c N hall hN hI hS hit hl hL hSo hTo hTS hTI hz hR
    cases hL with
    | cons hb hL =>
    rename_i its n xs
    refine codeAny_builtin F.entry_sum_loop ?_
    rw [Around.under_plainId F.plain_sum_loop _]
    show wpAny _ A.in1 (seqItems? (.ref S) >>= _) _ _ s
    refine wpAny_bind (wpAny_seqItems hSo rfl ?_)
    show wpAny _ A.in1 (tryCatch (pyNext (.ref I)) _ >>= _) _ _ s
    refine wpAny_bind (wpAny_tryCatch (wpAny_pyNext_list_item hit hl (x := .ref b) (by rw [hall]; simp) fun h' hit' hs' => ?_))
    have bI : b ≠ I := fun z => hI (by rw [z]; exact List.mem_cons_self ..)
    have bS : b ≠ S := fun z => hS (by rw [z]; exact List.mem_cons_self ..)
    have hI' : I ∉ bs := fun z => hI (List.mem_cons_of_mem _ z)
    have hS' : S ∉ bs := fun z => hS (List.mem_cons_of_mem _ z)
    have eT : h'.get? T = some (lo acc m) := (hs'.2 T hTI).trans hTo
    have eb : h'.get? b = some (lo its n) := (hs'.2 b bI).trans hb
    have eS := (hs'.2 S hSI).trans hSo
    have size1 : (acc ++ its).length ≤ sizeLine := by
      simp only [List.flatten_cons, List.length_append] at hz ⊢
      omega
    show wpAny _ A.in1 ((holding [Value.ref b] (binaryOp .Add (.ref T) (.ref b))).attempt >>= _) _ _ _
    refine wpAny_bind (wpAny_attempt (wpAny_holding (PySem.P.add_list eT eb ?_ (by rw [List.size_toArray, List.size_toArray, ← List.length_append]; exact size1))))
    have ea : acc.toArray ++ its.toArray = (acc ++ its).toArray := by simp
    rw [ea]
    have eS2 : (h'.push (lo (acc ++ its) 0)).get? S = some { cls := .type "list", dict := none, data := .seq #[.ref T] c, slots := #[] } := Heap.get?_push_of_some _ eS
    show wpAny _ A.in1 (updateSeq S (fun _ => #[.ref h'.objs.size]) >>= _) _ _ _
    refine wpAny_bind (wpAny_updateSeq eS2 rfl ?_)
    refine wpAny_bind (wpAny_letGo ?_)
    have T1 : h'.objs.size ≠ S := Ne.symm (Nat.ne_of_lt (Heap.lt_size eS))
    have T2 : h'.objs.size ≠ I := Ne.symm (Nat.ne_of_lt (by obtain ⟨_, e, _⟩ := hit'; exact Heap.lt_size e))
    have eS3 := Heap.get?_update_self (Obj.mapSeq fun _ => #[Value.ref h'.objs.size]) eS2 rfl
    have kept : ∀ b o, b ≠ S → h'.get? b = some o → (((h'.push (lo (acc ++ its) 0)).update S (Obj.mapSeq fun _ => #[Value.ref h'.objs.size])).update S (Obj.mapSeq fun _ => #[Value.ref h'.objs.size])).get? b = some o := fun b o h1 e =>
      (Heap.get?_update_other _ _ (Ne.symm h1)).trans ((Heap.get?_update_other _ _ (Ne.symm h1)).trans (Heap.get?_push_of_some _ e))
    show wpAny _ A.in1 (updateSeq S (fun _ => #[.ref h'.objs.size]) >>= _) _ _ _
    refine wpAny_bind (wpAny_updateSeq eS3 rfl ?_)
    refine wpAny_pure ⟨plainId_quiet F.plain_sum_loop _, ih xs (pre ++ [b]) _ h'.objs.size (acc ++ its) 0 _ N (by rw [hall]; simp) ?_ hI' hS' ?_ ?_ ?_ (Heap.get?_update_self _ eS3 rfl) ?_ T1 T2 (by simpa using hz) ?_⟩
    · rw [Heap.size_update, Heap.size_update, Heap.size_push, hs'.1]; omega
    · rw [List.length_append]
      exact hit'.at fun o e => kept _ _ (Ne.symm hSI) e
    · exact hl.at fun o e => kept _ _ (Ne.symm hSl) ((hs'.2 l hIl).trans e)
    · exact hL.keeps fun b o hb e => kept _ _ (fun z => hS' (z ▸ hb)) ((hs'.2 b (fun z => hI' (z ▸ hb))).trans e)
    · exact (Heap.get?_update_other _ _ (Ne.symm T1)).trans ((Heap.get?_update_other _ _ (Ne.symm T1)).trans (Heap.get?_push_size _ rfl))
    · intro h2 T' m' k hN' e
      refine hR h2 T' m' (fun b o h1 h3 eo => k b o h1 h3 (kept b o h3 ((hs'.2 b h1).trans eo))) (.inr ?_) (by simpa using e)
      rcases hN' with ⟨_, rfl⟩ | hN'
      · rw [hs'.1]; exact hN
      · exact hN'
end
theorem args_sum2 (a b : Value) : argsOk "sum" ⟨[a, b], []⟩ := by unfold argsOk; kernel_rfl
section
variable {X : Cx}
theorem vals_refs : ∀ {bs : List Addr} {us : List Value}, Vals (bs.map V.ref) us → us = bs.map Value.ref := fun h => refs_at h
/-- sum(lists, z): some new list -/
def rSumL (K : PySem.W.Frag) : List V → Hp → VK → Prop := fun vs H Q => ∃ (l z : Addr) (bs : List Addr) (xss : List (List V)), vs = [.ref l, .ref z] ∧ H l = some (.lst (bs.map V.ref)) ∧ H z = some (.lst []) ∧ bs ≠ [] ∧
  Paired (fun b xs => H b = some (.lst xs)) bs xss ∧ xss.flatten.length ≤ sizeLine ∧ ∀ p, H p = none → Q (.ref p) (upd H p (.lst xss.flatten))
theorem lists_of {P : Program} {w : World} {H : Hp} {h : Heap} (ok : HOk P w H h) : ∀ {bs : List Addr} {xss : List (List V)}, Paired (fun b xs => H b = some (.lst xs)) bs xss → ∃ its : List (List Value), Lists h bs its ∧ Vals xss.flatten its.flatten
  | _, _, .nil => ⟨[], .nil, .nil⟩
  | _, _, .cons e t => by
    obtain ⟨its, L, r⟩ := lists_of ok t
    obtain ⟨_, it, n, rv, eo⟩ := ok _ _ e
    exact ⟨it :: its, .cons eo L, by rw [List.flatten_cons, List.flatten_cons]; exact rv.append r⟩
theorem call_sumL (hcalm : X.calm = true) : CallR X (.builtin "sum") (rSumL X.K) := by
  intro pins s σ H vs us Q I r h
  obtain ⟨l, z, bs, xss, rfl, hl, hz, hne, hp, hsz, q⟩ := h
  obtain ⟨u1, u2, rfl, r1, r2⟩ := vals2 r
  cases r1
  cases r2
  obtain ⟨_, it, n, rv, hll, el⟩ := I.lstM hl
  obtain ⟨_, itz, nz, rz, hlz, ez⟩ := I.lstM hz
  have e1 := refs_at rv
  subst e1
  cases rz
  obtain ⟨its, L, rvs⟩ := lists_of I.hok hp
  refine call_function_tree F.kind_sum F.plain_sum F.entry_sum (args_sum2 _ _) ?_
  unfold Builtin.«sum»
  simp only [List.length_cons, List.length_nil]
  rw [if_neg (by decide)]
  refine wpAny_bind (wpAny_of_eq (show Builtin.Builtins.bindParams "sum" ["start"] 0 ⟨[.ref z], []⟩ = pure [some (.ref z)] from rfl) ?_)
  have hL : s.heap.IsList l (bs.map Value.ref).toArray := ⟨_, el, rfl, n, rfl⟩
  refine wpAny_bind (wpAny_pyIter_list hL ?_)
  refine wpAny_bind (wpAny_pure ?_)
  simp only [List.forIn_cons, List.forIn_nil]
  have ez2 : ({ s with heap := s.heap.push { cls := .type "list_iterator", data := .fields #[.ref l, .int 0 0] } } : Shared).TypeIs (.ref z) "list" := ⟨_, Heap.get?_push_of_some _ ez, rfl⟩
  refine wpAny_bind (wpAny_bind (wpAny_bind (wpAny_isInstance (T := "list") (b := false) ez2 F.sub_list_str ?_)))
  simp only [Bool.false_eq_true, if_false]
  refine wpAny_pure (wpAny_bind (wpAny_bind (wpAny_isInstance (T := "list") (b := false) ez2 F.sub_list_bytes ?_)))
  simp only [Bool.false_eq_true, if_false]
  refine wpAny_pure (wpAny_bind (wpAny_bind (wpAny_isInstance (T := "list") (b := false) ez2 F.sub_list_bytearray ?_)))
  simp only [Bool.false_eq_true, if_false]
  refine wpAny_pure (wpAny_pure ?_)
  refine wpAny_bind (wpAny_newObj_type ?_)
  have zl : z < s.heap.objs.size := Heap.lt_size ez
  have ll : l < s.heap.objs.size := Heap.lt_size el
  have sz1 : (s.heap.push { cls := .type "list_iterator", data := .fields #[.ref l, .int 0 0] }).objs.size = s.heap.objs.size + 1 := Heap.size_push ..
  have bl : ∀ b ∈ bs, b < s.heap.objs.size := fun b hb => by
    have : ∀ {cs : List Addr} {ys : List (List Value)}, Lists s.heap cs ys → ∀ c ∈ cs, c < s.heap.objs.size := fun {cs ys} L => by
      induction L with
      | nil => intro c hc; cases hc
      | cons e _ ih =>
        intro c hc
        rcases List.mem_cons.mp hc with rfl | hc
        · exact Heap.lt_size e
        · exact ih c hc
    exact this L b hb
  refine wpAny_pure ⟨plainId_quiet F.plain_sum_loop _, ?_⟩
  dsimp only
  rw [sz1]
  refine sum_loop (I.ok.hd hcalm) s.heap.objs.size l (s.heap.objs.size + 1) bs (Nat.ne_of_lt ll) (Nat.succ_ne_self _) (Nat.ne_of_lt (Nat.lt_succ_of_lt ll)).symm bs its [] _ z [] nz 0 s.heap.objs.size rfl ?_ (fun hb => Nat.lt_irrefl _ (bl _ hb)) (fun hb => Nat.lt_irrefl _ (Nat.lt_trans (Nat.lt_succ_self _) (bl _ hb))) ?_ ?_ ?_ ?_ ?_ (Nat.ne_of_lt (Nat.lt_succ_of_lt zl)) (Nat.ne_of_lt zl) ?_ ?_
  · show s.heap.objs.size ≤ ((s.heap.push _).push _).objs.size
    rw [Heap.size_push, sz1]
    exact Nat.le_trans (Nat.le_succ _) (Nat.le_succ _)
  · exact ⟨_, Heap.get?_push_of_some _ (Heap.get?_push_size _ rfl), rfl, rfl⟩
  · exact hL.at fun o e => Heap.get?_push_of_some _ (Heap.get?_push_of_some _ e)
  · exact L.keeps fun b o _ e => Heap.get?_push_of_some _ (Heap.get?_push_of_some _ e)
  · have := Heap.get?_push_size (s.heap.push { cls := .type "list_iterator", data := .fields #[.ref l, .int 0 0] }) (o := { cls := .type "list", data := .seq #[.ref z] }) rfl
    rwa [sz1] at this
  · exact Heap.get?_push_of_some _ (Heap.get?_push_of_some _ ez)
  · rw [List.nil_append, ← rvs.length]; exact hsz
  · intro h' T' m' k hN e
    rcases hN with ⟨z, _⟩ | hN
    · exact absurd z hne
    · rw [List.nil_append] at e
      refine ⟨.ref T', upd H T' (.lst xss.flatten), I.laid (t' := s.toks) (fun b u eb => k b u (Nat.ne_of_lt (Heap.lt_size eb)) (Nat.ne_of_lt (Nat.lt_succ_of_lt (Heap.lt_size eb))) (Heap.get?_push_of_some _ (Heap.get?_push_of_some _ eb))) hN ⟨hsz, its.flatten, m', rvs, e⟩, rfl, q _ (I.hok.fresh hN)⟩
end
end HX
/-! draws kept in a list of three ints; what stands beside them -/
namespace HU
open PySem PySem.Spec PyProof.Rows L2 HB TL
abbrev dr (x y z : Int) : HO := .lst [.int x, .int y, .int z]
/-- the draws stand at d, n of them drawn at most -/
def DL (H : Hp) (d : Addr) (n : Nat) : Prop := ∃ x y z : Int, H d = some (dr x y z) ∧ 0 ≤ z ∧ z ≤ n
/-- all but d stand -/
def U1 (d : Addr) (H H' : Hp) : Prop := ∀ b o, H b = some o → b ≠ d → H' b = some o
section
variable {d : Addr} {H H' H'' : Hp} {K : PySem.W.Frag} {n m : Nat}
theorem U1.refl (H : Hp) : U1 d H H := fun _ _ h _ => h
theorem U1.trans (a : U1 d H H') (b : U1 d H' H'') : U1 d H H'' := fun x o h h1 => b x o (a x o h h1) h1
theorem U1.of (s : Same H H') : U1 d H H' := fun b o h _ => s b o h
theorem U1.set (u : U1 d H H') {o : HO} : U1 d H (upd H' d o) := fun x y h h1 => by
  rw [upd_ne h1]
  exact u x y h h1
theorem U1.own (u : U1 d H H') {b : Addr} {o : HO} (n : H b = none) : U1 d H (upd H' b o) := fun x y h h1 => by
  rw [upd_ne (ne_of_none h n)]
  exact u x y h h1
theorem DL.same (D : DL H d n) (s : Same H H') : DL H' d n := let ⟨x, y, z, h, r⟩ := D; ⟨x, y, z, s _ _ h, r⟩
theorem DL.mono (D : DL H d n) (h : n ≤ m) : DL H d m := let ⟨x, y, z, h1, h2, h3⟩ := D; ⟨x, y, z, h1, h2, by omega⟩
theorem DL.set (D : DL H d n) {b : Addr} {o : HO} (hb : b ≠ d) : DL (upd H b o) d n := let ⟨x, y, z, h, r⟩ := D; ⟨x, y, z, by rw [upd_ne hb.symm]; exact h, r⟩
theorem DL.apart (D : DL H d n) {b : Addr} (h : H b = none) : b ≠ d := let ⟨_, _, _, h1, _⟩ := D; (ne_of_none h1 h).symm
theorem DL.ne (D : DL H d n) {b : Addr} {o : HO} (h : H b = some o) (ho : ∀ xs, o ≠ .lst xs) : b ≠ d := by
  rintro rfl
  obtain ⟨x, y, z, h1, _⟩ := D
  rw [h] at h1
  exact ho _ (Option.some.inj h1)
/-- tuples stand -/
theorem U1.sqt (u : U1 d H H') (D : DL H d n) {a : Addr} {xs : List V} (h : SqT K H a xs) : SqT K H' a xs := by
  rcases h with (h | ⟨o, h⟩) | h
  · exact .inl (.inl (u _ _ h (D.ne h fun _ z => by cases z)))
  · exact .inl (.inr ⟨o, u _ _ h (D.ne h fun _ z => by cases z)⟩)
  · exact .inr h
theorem U1.frz (u : U1 d H H') (D : DL H d n) {a : Addr} {o : Obj} {x : HO} (h : H a = some (.frz o x)) : H' a = some (.frz o x) := u _ _ h (D.ne h fun _ z => by cases z)
theorem U1.dk (u : U1 d H H') (D : DL H d n) {a : Addr} {kvs : List (Key × V)} (h : H a = some (.dK kvs)) : H' a = some (.dK kvs) := u _ _ h (D.ne h fun _ z => by cases z)
theorem U1.sql (u : U1 d H H') {a : Addr} {xs : List V} (hn : a ≠ d) (h : SqL K H a xs) : SqL K H' a xs := by
  rcases h with (h | ⟨o, h⟩) | h
  · exact .inl (.inl (u _ _ h hn))
  · exact .inl (.inr ⟨o, u _ _ h hn⟩)
  · exact .inr h
/-- a list apart from the draws: it is kept or it is another one -/
theorem sql_apart {a : Addr} {xs : List V} (h : SqL K H a xs) (D : DL H d n) (hx : ∀ x y z : Int, xs ≠ [.int x, .int y, .int z]) (hk : ∀ o, H a = some o → a ≠ d ∨ (∃ ys, o = .lst ys)) : (∀ o, SqL K (upd H d o) a xs) := by
  intro o
  rcases h with (h | ⟨q, h⟩) | h
  · by_cases e : a = d
    · subst e
      obtain ⟨x, y, z, h1, _⟩ := D
      rw [h] at h1
      exact absurd (HO.lst.inj (Option.some.inj h1)) (hx x y z)
    · exact .inl (.inl (by rw [upd_ne e]; exact h))
  · exact .inl (.inr ⟨q, by rw [upd_ne (D.ne h fun _ z => by cases z)]; exact h⟩)
  · exact .inr h
end
def sg (c : Nat) : Str := ⟨#[c]⟩
theorem joinL_sg : ∀ cs : List Nat, joinL [] (cs.map fun c => [c]) = cs
  | [] => rfl
  | [c] => rfl
  | c :: d :: r => by
    have ih := joinL_sg (d :: r)
    show [c] ++ [] ++ joinL [] ((d :: r).map fun c => [c]) = _
    rw [ih]
    rfl
theorem join_sg (cs : List Nat) : (Txt.join Str.empty (cs.map sg)).cps.toList = cs := by
  have h := tl_join Str.empty (cs.map sg)
  rw [← join_eq, List.map_map] at h
  exact h.trans (joinL_sg cs)
/-- what is picked from -/
def Pickd (K : PySem.W.Frag) (H : Hp) (x : V) (ys : List V) : Prop := (∃ l, x = .ref l ∧ SqL K H l ys) ∨ (∃ t, x = .ref t ∧ SqT K H t ys) ∨ ∃ z : Str, x = .str z ∧ z.length ≤ 100000 ∧ ys = z.cps.toList.map fun c => V.str (sg c)
/-! ### the law's list -/
theorem script_or {K : PySem.W.Frag} {a : Addr} {ns : List Int} {σ : L2.St} {H : Hp} {Q : VK} (h0 : σ[0]? = some (some (.ref a))) (hS : SqL K H a (ns.map V.int)) (hl : ns.length ≤ 63) (h : ∀ (b : Addr) (ms : List Int) (H1 : Hp), Same H H1 → SqL K H1 b (ms.map V.int) → ms.length ≤ 63 → Q (.ref b) H1) :
    tOrT K (tVar 0) (tLst (tCons (tC (.int 5)) tNil)) σ H Q := by
  refine ⟨_, h0, !(ns.map V.int).isEmpty, .inl ⟨_, hS, rfl⟩, ite2 (fun _ => h a ns H (Same.refl H) hS hl) fun _ => ⟨(by show 1 ≤ sizeLine; decide), fun p hp => h p [5] _ (same_upd hp) (.inl (.inl upd_same)) (by decide)⟩⟩
theorem cut_to (xs : List V) (n : Nat) : cutV xs none (some (n : Int)) = xs.take n := by
  unfold cutV
  rw [HT.sIx_none, HT.sIx_nat, List.drop_zero, Nat.sub_zero, List.take_eq_take_iff]
  omega
theorem cut_ints (ms : List Int) (n : Nat) : ∃ cs : List Int, cutV (ms.map V.int) none (some (n : Int)) = cs.map V.int ∧ cs.length ≤ n := by
  refine ⟨ms.take n, ?_, List.length_take_le _ _⟩
  unfold cutV
  rw [HT.sIx_none, HT.sIx_nat, List.length_map, List.drop_zero, List.map_take, Nat.sub_zero, List.take_eq_take_iff]
  simp only [List.length_map]
  omega
end HU
/-! the head with facts: defs, names, dicts of the top with text keys, and further tests of one's own (ex) -/
namespace HH
open PySem PySem.Spec PyProof.Rows L2 He
abbrev Ex : Type := PySem.W.Frag → Bool
abbrev AlX : Type := Bool × List FnW × List (Option (List (Option (Str × Int))))
def obsX (fa : List Fa) (fn : List DefD) (ex : List Ex) (ts : List Tab) (K : PySem.W.Frag) : AlX := ((fa.all fun f => f.ok K) && ((fn.all fun d => d.ok K) && ex.all fun e => e K), fn.map (fun d => fnW K d.at_), ts.map fun t => dicW K (t.1 K))
def valX (fn : List DefD) (ts : List Tab) (w : World) : AlX := (true, fn.map DefD.val, ts.map fun t => some (keysIn w.params t.2))
def SaysX (fa : List Fa) (fn : List DefD) (ex : List Ex) (ts : List Tab) (w : World) (K : PySem.W.Frag) : Prop := obsX fa fn ex ts K = valX fn ts w
def obsXG (n : Nat) (fa : List Fa) (fn : List DefD) (ex : List Ex) (ts : List Tab) (g : Addr → Option Obj) : AlX := obsX fa fn ex ts (frG g (PySem.cStatics :: asD g n))
def hookX (n : Nat) (fa : List Fa) (fn : List DefD) (ex : List Ex) (ts : List Tab) : PySem.W.Hook where
  α := AlX
  obs := fun s => obsXG n fa fn ex ts s.heap.get?
  val := fun w => valX fn ts w
  says := fun w h => ∃ K : PySem.W.Frag, K.In h ∧ SaysX fa fn ex ts w K
  of := fun _ _ e => ⟨_, frG_in, e⟩
  keeps := fun _ _ _ ⟨K, hK, c⟩ k => ⟨K, PySem.W.Frag.In.keeps hK k, c⟩
theorem obsXG_eq {n : Nat} {fa : List Fa} {fn : List DefD} {ex : List Ex} {ts : List Tab} {g : Addr → Option Obj} {s : Shared} (h : ∀ a, g a = s.heap.get? a) : obsXG n fa fn ex ts g = (hookX n fa fn ex ts).obs s := by
  have e : g = s.heap.get? := funext h
  rw [e] <;> rfl
section
variable {fa : List Fa} {fn : List DefD} {ex : List Ex} {ts : List Tab} {w : World} {K : PySem.W.Frag}
theorem SaysX.parts (c : SaysX fa fn ex ts w K) : (fa.all fun f => f.ok K) = true ∧ (fn.all fun d => d.ok K) = true ∧ (ex.all fun e => e K) = true := by
  have c1 := ba (show ((fa.all fun f => f.ok K) && ((fn.all fun d => d.ok K) && ex.all fun e => e K)) = true from congrArg (fun z : AlX => z.1) c)
  exact ⟨c1.1, ba c1.2⟩
theorem SaysX.fact (c : SaysX fa fn ex ts w K) (i : Nat) {f : Fa} (h : fa[i]? = some f := by rfl) : f.ok K = true := List.all_eq_true.mp c.parts.1 f (List.mem_of_getElem? h)
theorem SaysX.ex_ (c : SaysX fa fn ex ts w K) (i : Nat) {e : Ex} (h : ex[i]? = some e := by rfl) : e K = true := List.all_eq_true.mp c.parts.2.2 e (List.mem_of_getElem? h)
theorem SaysX.def_ (c : SaysX fa fn ex ts w K) (i : Nat) {d : DefD} (h : fn[i]? = some d := by rfl) : ∃ fd, FunD K d.name d.qual d.params d.body d.scope (d.dvs K) (d.kws K) (fAd K d.at_) fd := by
  have e : fn.map (fun d => fnW K d.at_) = fn.map DefD.val := congrArg (fun z : AlX => z.2.1) c
  have e2 : (fn.map fun d => fnW K d.at_)[i]? = (fn.map DefD.val)[i]? := by rw [e]
  rw [List.getElem?_map, List.getElem?_map, h] at e2
  exact DefD.funD (Option.some.inj e2) (List.all_eq_true.mp c.parts.2.1 d (List.mem_of_getElem? h))
theorem SaysX.dic (c : SaysX fa fn ex ts w K) (i : Nat) {t : Tab} (h : ts[i]? = some t := by rfl) : dicW K (t.1 K) = some (keysIn w.params t.2) := by
  have e : ts.map (fun t => dicW K (t.1 K)) = ts.map fun t => some (keysIn w.params t.2) := congrArg (fun z : AlX => z.2.2) c
  have e2 : (ts.map fun t => dicW K (t.1 K))[i]? = (ts.map fun t => some (keysIn w.params t.2))[i]? := by rw [e]
  rw [List.getElem?_map, List.getElem?_map, h] at e2
  exact Option.some.inj e2
end
/-! ### a def of no positional default -/
theorem funOf {K : PySem.W.Frag} {x qual : Str} {st : Stmt} {kws : List (Str × V)} {f : Addr} {fd : FuncData} (F : FunD K x qual (defArgs st) (defBody st) (defScope st) [] kws f fd) : Fun K x qual st f fd := by
  obtain ⟨oc, od, dV, kV, doc, pm, an, cdv, ct, osl, e, lk, hcd, hd, _⟩ := F.ex
  rcases hd with ⟨_, rfl⟩ | ⟨h, _⟩
  · exact ⟨⟨oc, od, kV, doc, pm, an, cdv, ct, osl, e, lk, hcd⟩, F.kp⟩
  · exact absurd rfl h
/-! ### dicts of the top -/
/-- a name that is no key -/
theorem dic_none {K : PySem.W.Frag} {P : Params} {a : Addr} {ks : List Str} (h : dicW K a = some (keysIn P ks)) {z : Str} (hz : z ∉ ks) : PySem.W.nsIn K a z = some none := by
  unfold dicW at h
  unfold PySem.W.nsIn
  cases q : K.lookup a with
  | none => rw [q] at h; cases h
  | some o =>
    obtain ⟨oc, od, dt, osl⟩ := o
    rw [q] at h
    cases oc with
    | type c =>
      cases od with
      | none =>
        cases dt with
        | dict es n =>
          have h1 : (match decide (c = "dict") && (osl.isEmpty && !(a == sysModules)) with
            | true => some (es.toList.map He.keyOf)
            | false => none) = some (keysIn P ks) := h
          cases y : decide (c = "dict") && (osl.isEmpty && !(a == sysModules)) with
          | false => rw [y] at h1; cases h1
          | true =>
            rw [y] at h1
            have h2 : es.toList.map He.keyOf = keysIn P ks := Option.some.inj h1
            have key : ∀ (l : List DictEntry) (ks : List Str), l.map He.keyOf = keysIn P ks → z ∉ ks → l.find? (·.key.isStr z) = none ∧ l.any (·.refKey) = false := by
              intro l
              induction l with
              | nil => intro ks _ _; exact ⟨rfl, rfl⟩
              | cons e r ih =>
                intro ks hk hz
                cases ks with
                | nil => cases hk
                | cons k ks =>
                  have hk1 : He.keyOf e :: r.map He.keyOf = some (k, PyData.keyHash P k) :: keysIn P ks := hk
                  injection hk1 with hk2 hk3
                  obtain ⟨i1, i2⟩ := ih ks hk3 (fun m => hz (List.mem_cons_of_mem _ m))
                  unfold He.keyOf at hk2
                  split at hk2
                  · rename_i x t ek
                    obtain ⟨ex, _⟩ := Prod.mk.inj (Option.some.inj hk2)
                    have ne : x ≠ z := fun e => hz (by rw [← e, ex]; exact List.mem_cons_self ..)
                    have s1 : e.key.isStr z = false := by
                      rw [ek]
                      exact beq_eq_false_iff_ne.mpr ne
                    have s2 : e.refKey = false := by
                      unfold DictEntry.refKey
                      rw [ek]
                    exact ⟨by rw [List.find?_cons, s1]; exact i1, by rw [List.any_cons, s2, i2]; rfl⟩
                  · cases hk2
            obtain ⟨k1, k2⟩ := key _ _ h2 hz
            show (match es.toList.find? (·.key.isStr z) with
              | some e => some (some e.val)
              | none => if es.toList.any (·.refKey) then none else some none) = some none
            rw [k1, k2]
            rfl
        | _ => cases h
      | some b => cases dt <;> cases h
    | _ => cases od <;> cases dt <;> cases h
/-- a dict's values are tuples of these -/
def dtB (x : Str) (kvs : List (Str × List Dv)) : Ex := fun K => kvs.all fun q => match PySem.W.nsIn K (ga K x) q.1 with
  | some (some (.ref t)) => (match K.lookup t with
    | some ⟨.type c, _, .seq its _, _⟩ => decide (c = "tuple") && (decide (its.size ≤ sizeLine) && relAll (q.2.map (Dv.v K)) its.toList)
    | _ => false)
  | _ => false
theorem dtB_ok {K : PySem.W.Frag} {x : Str} {kvs : List (Str × List Dv)} (h : dtB x kvs K = true) {q : Str × List Dv} (hq : q ∈ kvs) : ∃ t : Addr, PySem.W.nsIn K (ga K x) q.1 = some (some (.ref t)) ∧ ∀ H : Hp, SqT K H t (q.2.map (Dv.v K)) := by
  have h2 := List.all_eq_true.mp h q hq
  cases e : PySem.W.nsIn K (ga K x) q.1 with
  | none => rw [e] at h2; cases h2
  | some r =>
    rw [e] at h2
    cases r with
    | none => cases h2
    | some u =>
      cases u with
      | ref t =>
        refine ⟨t, rfl, fun H => ?_⟩
        have h3 : (match K.lookup t with
          | some ⟨.type c, _, .seq its _, _⟩ => decide (c = "tuple") && (decide (its.size ≤ sizeLine) && relAll (q.2.map (Dv.v K)) its.toList)
          | _ => false) = true := h2
        cases y : K.lookup t with
        | none => rw [y] at h3; cases h3
        | some o =>
          obtain ⟨oc, od, dt, osl⟩ := o
          rw [y] at h3
          cases oc with
          | type c =>
            cases dt with
            | seq its n =>
              obtain ⟨g1, g2⟩ := ba (show (decide (c = "tuple") && (decide (its.size ≤ sizeLine) && relAll (q.2.map (Dv.v K)) its.toList)) = true from h3)
              obtain ⟨g3, g4⟩ := ba g2
              exact .inr ⟨_, its, n, y, congrArg Value.type (of_decide_eq_true g1), rfl, of_decide_eq_true g3, relAll_ok g4⟩
            | _ => cases h3
          | _ => cases dt <;> cases h3
      | _ => cases h2
/-- what is known of a dict of the top whose values are tuples -/
structure DT (K : PySem.W.Frag) (w : World) (a : Addr) (kvs : List (Str × List V)) : Prop where
  kd : ∃ es n, KDict K w a es n
  miss : ∀ z : Str, z ∉ kvs.map (·.1) → PySem.W.nsIn K a z = some none
  there : ∀ q ∈ kvs, ∃ t : Addr, PySem.W.nsIn K a q.1 = some (some (.ref t)) ∧ ∀ H : Hp, SqT K H t q.2
theorem DT.of {K : PySem.W.Frag} {w : World} {x : Str} {kvs : List (Str × List Dv)} {ks : List Str} (h : dtB x kvs K = true) (hd : dicW K (ga K x) = some (keysIn w.params ks)) (e : kvs.map (·.1) = ks) {vs : List (Str × List V)} (ev : vs = kvs.map fun q => (q.1, q.2.map (Dv.v K)) := by rfl) : DT K w (ga K x) vs := by
  subst ev
  refine ⟨dicW_ok hd, fun z hz => dic_none hd fun m => hz ?_, fun q hq => ?_⟩
  · rw [List.map_map, show ((fun q : Str × List V => q.1) ∘ fun q : Str × List Dv => (q.1, q.2.map (Dv.v K))) = (fun q => q.1) from rfl, e]
    exact m
  · obtain ⟨p, hp, rfl⟩ := List.mem_map.mp hq
    exact dtB_ok h hp
/-- a keyword default that is an object -/
def kwAt (p : Str × Option Str) (x : Str) (K : PySem.W.Frag) : Addr := match K.lookup (fAd K p) with
  | some ⟨_, _, .func fd, _⟩ => (match fd.kwdefaults with
    | .ref D => (match PySem.W.nsIn K D x with
      | some (some (.ref a)) => a
      | _ => 0)
    | _ => 0)
  | _ => 0
def tpB (p : PySem.W.Frag → Addr) (vs : List Dv) : Ex := fun K => match K.lookup (p K) with
  | some ⟨.type c, _, .seq its _, _⟩ => decide (c = "tuple") && (decide (its.size ≤ sizeLine) && relAll (vs.map (Dv.v K)) its.toList)
  | _ => false
theorem tpB_ok {K : PySem.W.Frag} {p : PySem.W.Frag → Addr} {vs : List Dv} (h : tpB p vs K = true) (H : Hp) : SqT K H (p K) (vs.map (Dv.v K)) := by
  unfold tpB at h
  cases q : K.lookup (p K) with
  | none => rw [q] at h; cases h
  | some o =>
    obtain ⟨oc, od, dt, osl⟩ := o
    rw [q] at h
    cases oc with
    | type c =>
      cases dt with
      | seq its n =>
        obtain ⟨h1, h2⟩ := ba (show (decide (c = "tuple") && (decide (its.size ≤ sizeLine) && relAll (vs.map (Dv.v K)) its.toList)) = true from h)
        obtain ⟨h3, h4⟩ := ba h2
        exact .inr ⟨_, its, n, q, congrArg Value.type (of_decide_eq_true h1), rfl, of_decide_eq_true h3, relAll_ok h4⟩
      | _ => cases h
    | _ => cases dt <;> cases h
/-! ### the end -/
theorem walk_ofX {l : PySem.W.OpenLaw} {n k : Nat} {q : Program} {loose : List Str} {XP : (Str → Option Value) → Heap → Prop} {YP : World → Heap → Prop} {d : DefRec} {CX : CXT} {x : Str}
    (hn : l.most = some n) (hn2 : n ≤ sizeLine) (hdf : d.params.defaults = []) (hr : Room k callerA)
    (F : ∀ (w : World) (mg : Str → Option Value) (fa : Addr) (h : Heap), YP w h → h.Ns mainGlobals mg → mg d.name = some (.ref fa) →
      ∃ (K : PySem.W.Frag) (fd : FuncData) (sp : Sp), K.In h ∧ (∀ (s : Shared) (u : Value), BindsTo s fd ⟨[u], []⟩ [(x, u)]) ∧
        (∀ (H : Hp) (a : Addr) (ns : List Int), ns.length ≤ n → Only H → SqL K H a (ns.map V.int) → sp [.ref a] H (fun v _ => v = .bl true) fun _ _ _ => False) ∧
        ∀ base : Heap, K.In base → base.Ns mainGlobals mg → HG.FnG l.prog w K mg base CX k fa fd [x] sp)
    (hCX : ∀ (H : Hp) (s : Shared) (e : Value) (s' : Shared), CX [] H s (fun _ _ _ => False) e s' → False) :
    PySem.W.WalkO q loose XP YP l.row.toRowW d [] (fun f vs => PySem.call f vs) := by
  refine Att.attach_call hn hdf fun w s₀ s₁ mg mb fa o pm cd doc a vs ns G Y ho hd hcd hmg hobj hints hlen hg => ?_
  obtain ⟨K, fd, sp, KX, hb, hsp, hF⟩ := F w mg fa _ Y G.T.g hmg
  exact HG.law_callG KX G.T.g G.T.b G.T.builtins G.T.nolimit hg hobj hints (Nat.le_trans hlen hn2) hr hF hb (fun H hO hS => hsp H a ns hlen hO hS) fun H e s' => hCX H s₁ e s'
end HH
/-! enumerate of a tuple -/
namespace HE
open PySem PySem.Spec PySem.Calls PyProof.Rows L2
open Sem (wp)
open AutoSeq1 (wpAny_loadPart')
theorem meets_enumT (l : Addr) (items : Array Value) (n : Nat) (dct : Option Addr) (sl : Array (Option Value)) :
    Meets (Builtin.«enumerate.__new__» ⟨[.type "enumerate", .ref l], []⟩) (fun _ R s => s.heap.get? l = some { cls := .type "tuple", dict := dct, data := .seq items n, slots := sl } ∧
      R (.ok (.ret (.ref (s.heap.push { cls := .type "tuple_iterator", data := .fields #[.ref l, .int 0 0] }).objs.size)))
        { s with heap := (s.heap.push { cls := .type "tuple_iterator", data := .fields #[.ref l, .int 0 0] }).push { cls := .type "enumerate", data := .fields #[.none, .bool false, .ref s.heap.objs.size, rawInt 0, .none, .none] } }) :=
  .of_wp fun prog w A R s h => by
    obtain ⟨hp, g, d, tk, os⟩ := s; obtain ⟨hl, h⟩ := h
    have hsub := sub_enumerate
    have hL : Heap.IsTuple (Shared.heap ⟨hp, g, d, tk, os⟩) l items := ⟨_, hl, rfl, n, rfl⟩
    wp_walk using wpAny_loadPart' hl
    refine wpAny_stack_any fun st => wpAny_pure ?_
    split
    · rename_i c _ _ _ _ _
      cases (c == Value.type "enumerate")
      · wp_walk using wpAny_loadPart' hl, wpAny_pyIter_tuple hL
        exact ⟨_, rfl, h⟩
      · wp_walk using wpAny_loadPart' hl, wpAny_pyIter_tuple hL
        exact ⟨_, rfl, h⟩
    · wp_walk using wpAny_loadPart' hl, wpAny_pyIter_tuple hL
      exact ⟨_, rfl, h⟩
section
variable {prog : Program} {w : World} {A : Around} {E : Value → Shared → Prop} {s : Shared}
theorem call_enumT {l : Addr} {items : Array Value} {Q : Value → Shared → Prop} (hL : s.heap.IsTuple l items)
    (h : ∀ h', IsEnum h' (s.heap.objs.size + 1) s.heap.objs.size 0 .none → h'.IsTupleIter s.heap.objs.size l 0 → h'.objs.size = s.heap.objs.size + 2 →
      (∀ b o, s.heap.get? b = some o → h'.get? b = some o) → Q (.ref (s.heap.objs.size + 1)) { s with heap := h' }) :
    wpAny (model prog w) A (call (.type "enumerate") [.ref l]) Q E s := by
  obtain ⟨⟨c, dct, dt, sl⟩, hl, hc, n, hd⟩ := hL
  replace hc : c = .type "tuple" := hc
  replace hd : dt = .seq items n := hd
  subst hc hd
  refine callType_new F.called_enumerate (by decide) (F.typeCall_enumerate_1 _) (F.newCall_enumerate_1 _) (fun obj => F.args_object_init_2 obj _) F.entry_enumerate_new
    (meets_enumT l items n dct sl) ⟨hl, ?_⟩
  have hz : (s.heap.push { cls := .type "tuple_iterator", data := .fields #[.ref l, .int 0 0] }).objs.size = s.heap.objs.size + 1 := Heap.size_push ..
  show _ ∧ _
  rw [hz]
  have he : IsEnum ((s.heap.push { cls := .type "tuple_iterator", data := .fields #[.ref l, .int 0 0] }).push
      { cls := .type "enumerate", data := .fields #[.none, .bool false, .ref s.heap.objs.size, rawInt 0, .none, .none] }) (s.heap.objs.size + 1) s.heap.objs.size 0 .none := by
    have := Heap.get?_push_size (s.heap.push { cls := .type "tuple_iterator", data := .fields #[.ref l, .int 0 0] })
      (o := { cls := .type "enumerate", data := .fields #[.none, .bool false, .ref s.heap.objs.size, rawInt 0, .none, .none] }) rfl
    rw [hz] at this; exact this
  refine ⟨⟨_, he, rfl⟩, h _ he ⟨_, Heap.get?_push_of_some _ (Heap.get?_push_size _ rfl), rfl, rfl⟩ (by rw [Heap.size_push, hz]) fun b o x => Heap.get?_push_of_some _ (Heap.get?_push_of_some _ x)⟩
end
/-- at the end -/
theorem Draws.tupEnd {prog : Program} {w : World} {A : Around} (hh : A.handled = none) (it t : Addr) (items : Array Value) (j : Nat) (hj : items.size ≤ j) :
    PySem.Draws prog w A it [it, t] j (fun _ _ => False) (fun i h => i = j ∧ h.IsTupleIter it t j ∧ h.IsTuple t items) where
  live := fun _ _ st => let ⟨o, ho, _⟩ := st.2.1; ⟨o, ho⟩
  frame := fun _ _ _ st hk => ⟨st.1, st.2.1.at fun o e => hk it (by simp) o e, st.2.2.at fun o e => hk t (by simp) o e⟩
  item := fun i s Q E hi st hQ => absurd st.1 (Nat.ne_of_lt hi)
  done := fun s Q E st hE => wpAny_nextOf_tuple_end hh st.2.1 st.2.2 (by simp [hj]) hE
def IteT (K : PySem.W.Frag) (a : Addr) : It :=
  ⟨fun i H => ∃ (xs : List V) (x : V), SqT K H a xs ∧ xs[i]? = some x, fun i H v H' => ∃ T x, v = .ref T ∧ H T = none ∧ H' = upd H T (.tup [.int (i : Nat), x]) ∧ ∀ xs, SqT K H a xs → xs[i]? = some x, fun i H => ∃ xs : List V, SqT K H a xs ∧ xs.length ≤ i⟩
theorem turn_enumT {P : Program} {w : World} {K : PySem.W.Frag} {elts : List Expr} {kk : Nat} {tpos : Pos} (a e it : Addr) :
    Turn P w K (.Tuple elts kk tpos) (IteT K a) [e, it] e (fun i h => (∃ old, IsEnum h e it ((i : Nat) : Int) old) ∧ h.IsTupleIter it a i ∧ e ≠ it) where
  mem := by simp
  obj := fun i h st b hb => by
    obtain ⟨⟨old, he⟩, ⟨o, ho, hc, hd⟩, _⟩ := st
    have e' : b = e ∨ b = it := by simpa using hb
    rcases e' with z | z
    · rw [z]; exact ⟨_, he, fun v q => nomatch q⟩
    · rw [z]; exact ⟨o, ho, fun v q => by rw [hd] at q; cases q⟩
  keep := fun i h h' st k => let ⟨⟨old, he⟩, hi, hne⟩ := st; ⟨⟨old, k e (by simp) _ he⟩, hi.at fun o q => k it (by simp) o q, hne⟩
  item := by
    intro X hP hw hK hc i pins s σ H E I hf st hg
    subst hP hw hK
    obtain ⟨⟨old, he⟩, hit, hne⟩ := st
    obtain ⟨xs, x, hq, hx⟩ := hg
    obtain ⟨its, rv, p, hz⟩ := I.tuple hq
    obtain ⟨u, hu, ru⟩ := rv.get hx
    have hel : e < s.heap.objs.size := Heap.lt_size he
    have hil : it < s.heap.objs.size := by obtain ⟨_, q, _⟩ := hit; exact Heap.lt_size q
    have ht : s.heap.IsTuple a its.toArray := p
    have hai : a ≠ it := by
      rintro rfl
      obtain ⟨o, ho, hc1, _⟩ := hit
      obtain ⟨o2, ho2, hc2, _⟩ := ht
      rw [ho] at ho2
      cases ho2
      rw [hc1] at hc2
      exact absurd (Value.type.inj hc2) (by decide)
    have hae : a ≠ e := by
      rintro rfl
      obtain ⟨o2, ho2, hc2, _⟩ := ht
      rw [show s.heap.get? a = some _ from he] at ho2
      cases ho2
      exact absurd (Value.type.inj hc2) (by decide)
    have hlt : i < its.toArray.size := by
      have := List.getElem?_eq_some_iff.mp hu
      simpa using this.1
    refine wpAny_pyNext_enum_itemD (Draws.tuple (A := X.A.in1) (I.ok.hd hc) it a hai its.toArray) he ⟨hit, ht⟩ hlt hne (by simp; exact ⟨hne, Ne.symm hae⟩) fun v h' tk hv ho st' hT hsz hk => ?_
    have ev : v = u := by
      have h1 : its.toArray[i]? = some u := by simpa using hu
      rw [hv] at h1
      exact Option.some.inj h1
    subst ev
    refine ⟨_, rfl, wpAny_letOwnedTupleGo_enum (s := { s with heap := h', toks := tk + 1 }) ho fun h'' he' sb => ?_⟩
    have hT2 : h''.get? s.heap.objs.size = some { cls := .type "tuple", data := .seq #[.int i tk, v] } := (sb.2 _ (Nat.ne_of_gt hel)).trans hT
    have new : ObjOk X.prog X.w (upd H s.heap.objs.size (.tup [.int (i : Nat), x])) h'' s.heap.objs.size (.tup [.int (i : Nat), x]) :=
      ⟨by show 2 ≤ sizeLine; decide, [.int i tk, v], .cons ⟨_, rfl⟩ (.cons ru .nil), ⟨_, hT2, rfl, _, rfl⟩⟩
    have I1 : Inv X pins σ (upd H s.heap.objs.size (.tup [.int (i : Nat), x])) { s with heap := h'', toks := tk + 1 } :=
      I.turnedNew (ch := [e, it]) (fun b ob hb q => (sb.2 b (fun z => hb (by simp [z]))).trans (hk b ob (fun z => hb (by simp [z])) (fun z => hb (by simp [z])) q)) hf (Nat.le_refl _) new
    refine ⟨.ref s.heap.objs.size, _, I1, rfl, ⟨_, x, rfl, I.hok.fresh (Nat.le_refl _), rfl, fun ys hy => by rw [I.tuple_inj hy hq]; exact hx⟩, ⟨⟨v, ?_⟩, st'.1.at fun o q => (sb.2 it (Ne.symm hne)).trans q, hne⟩, fun b hb => ?_⟩
    · have e1 : ((i + 1 : Nat) : Int) = (i : Int) + 1 := by omega
      rw [e1]; exact he'
    · have hb' : b < s.heap.objs.size := by
        have e' : b = e ∨ b = it := by simpa using hb
        rcases e' with z | z
        · rw [z]; exact hel
        · rw [z]; exact hil
      rw [upd_ne (Nat.ne_of_lt hb')]
      exact (hf b hb).1
  done := by
    intro X hP hw hK hc i pins s σ H E I hf st hg
    subst hP hw hK
    obtain ⟨⟨old, he⟩, hit, hne⟩ := st
    obtain ⟨xs, hq, hx⟩ := hg
    obtain ⟨its, rv, p, hz⟩ := I.tuple hq
    obtain ⟨f0, f1, f2, f3, f4, f5⟩ := hf it (by simp)
    have hl := rv.length
    have ht : s.heap.IsTuple a its.toArray := p
    have hai : a ≠ it := by
      rintro rfl
      obtain ⟨o, ho, hc1, _⟩ := hit
      obtain ⟨o2, ho2, hc2, _⟩ := ht
      rw [ho] at ho2
      cases ho2
      rw [hc1] at hc2
      exact absurd (Value.type.inj hc2) (by decide)
    -- the walk may be asked behind the end
    refine wpAny_pyNext_enum_endD (Draws.tupEnd (A := X.A.in1) (I.ok.hd hc) it a its.toArray i (by simp; omega)) he ⟨rfl, hit, ht⟩ fun h' eb => ⟨rfl, I.turned (t' := s.toks) (fun b o hb q => eb b o hb q) f0 f1 f3 f4 f5⟩
  self := fun A i s Q E st h => let ⟨⟨_, he⟩, _⟩ := st; wpAny_pyIter_enum he h
def iEnumT (K : PySem.W.Frag) (ta : TA) : TI := fun σ H R => ta σ H fun vs H1 => ∃ a xs, vs = [.ref a] ∧ SqT K H1 a xs ∧ R (IteT K a) H1
theorem pi_enumT {X : Cx} {e : Expr} {ta : TA} {p pos tpos : Pos} {elts : List Expr} {kk : Nat} (hg : Gl X "enumerate") (hm : X.mg "enumerate" = none) (ha : PA X [e] ta) (hs : starEach [e] X.env = [(false, eval e X.env)] := by rfl) :
    PI X (.Tuple elts kk tpos) (.Call (.Name "enumerate" p) [e] [] pos) (iEnumT X.K ta) := by
  refine ⟨fun pins s σ H R I h => ?_⟩
  refine Call_ (ld_blt I hg hm boot_enumerate (PyProof.Rows.callWith_type1 (thn (ha.run pos pins s σ H _ I h) fun us s1 ⟨vs, H1, I1, r1, q1⟩ => ?_) hs rfl))
  obtain ⟨a, xs, ex, hq, q⟩ := q1
  subst ex
  cases r1 with
  | cons r rr =>
    cases rr
    cases r
    obtain ⟨its, rv, p', hz⟩ := I1.tuple hq
    refine call_enumT (show s1.heap.IsTuple a its.toArray from p') fun h' he hit hsz hk => wpAny_pyIter_enum he ?_
    have I2 : Inv X pins σ H1 { s1 with heap := h' } := I1.kept (t' := s1.toks) hk
    refine ⟨s1.heap.objs.size + 1, [s1.heap.objs.size + 1, s1.heap.objs.size], _, _, H1, rfl, I2, turn_enumT a (s1.heap.objs.size + 1) s1.heap.objs.size, ⟨⟨.none, he⟩, hit, Nat.succ_ne_self _⟩, fun b hb => ?_, q⟩
    have e' : b = s1.heap.objs.size + 1 ∨ b = s1.heap.objs.size := by simpa using hb
    have hle : s1.heap.objs.size ≤ b := by
      rcases e' with z | z
      · rw [z]; exact Nat.le_add_right _ _
      · rw [z]; exact Nat.le_refl _
    exact I1.fpOk hle (I1.hok.fresh hle)
theorem walk_enumT {K : PySem.W.Frag} {a : Addr} {xs : List V} : Walk (IteT K a) xs.length (fun H => SqT K H a xs) (YPair (fun i => some (.int (i : Nat))) (fun i => xs[i]?)) := by
  refine ⟨fun i _ hi q => ⟨xs, xs[i], q, by simp [hi]⟩, fun _ q => ⟨xs, q, Nat.le_refl _⟩, fun i H v H' _ q y => ?_⟩
  obtain ⟨T, x, h1, h2, h3, h4⟩ := y
  exact ⟨T, .int (i : Nat), x, h1, h2, h3, rfl, h4 xs q⟩
end HE
/-! zip of a tuple and a list, over the library's zip of any two iterators (KE.GoesZip, KE.GoesMore) -/
namespace HE
open PySem PySem.Spec PySem.Calls PyProof.Rows L2 RZ
open Sem (wp)
theorem Draws.lstEnd {prog : Program} {w : World} {A : Around} (hh : A.handled = none) (it t : Addr) (items : Array Value) (j : Nat) (hj : items.size ≤ j) :
    PySem.Draws prog w A it [it, t] j (fun _ _ => False) (fun i h => i = j ∧ h.IsListIter it t j ∧ h.IsList t items) where
  live := fun _ _ st => let ⟨o, ho, _⟩ := st.2.1; ⟨o, ho⟩
  frame := fun _ _ _ st hk => ⟨st.1, st.2.1.at fun o e => hk it (by simp) o e, st.2.2.at fun o e => hk t (by simp) o e⟩
  item := fun i s Q E hi st hQ => absurd st.1 (Nat.ne_of_lt hi)
  done := fun s Q E st hE => wpAny_nextOf_list_end hh st.2.1 st.2.2 (by simp [hj]) hE
/-- a tuple at a and a list at b, as they stand at each turn -/
def ItzTL (K : PySem.W.Frag) (a b : Addr) : It :=
  ⟨fun i H => ∃ (xs ys : List V) (x y : V), SqT K H a xs ∧ SqL K H b ys ∧ xs[i]? = some x ∧ ys[i]? = some y,
    fun i H v H' => ∃ T x y, v = .ref T ∧ H T = none ∧ H' = upd H T (.tup [x, y]) ∧ (∀ xs, SqT K H a xs → xs[i]? = some x) ∧ ∀ ys, SqL K H b ys → ys[i]? = some y,
    fun i H => ∃ xs ys : List V, SqT K H a xs ∧ SqL K H b ys ∧ (xs.length ≤ i ∨ ys.length ≤ i)⟩
/-- what the walk's own objects are -/
def ZSt (z TI TO i1 i2 a b : Addr) (i : Nat) (h : Heap) : Prop := IsZip h z TI TO .none ∧ IsTupOf2 h TI (.ref i1) (.ref i2) ∧ (∃ x y, IsTupOf2 h TO x y) ∧ h.IsTupleIter i1 a i ∧ h.IsListIter i2 b i
theorem mem5 {c z TI TO i1 i2 : Addr} (h : c ∈ [z, TI, TO, i1, i2]) : c = z ∨ c = TI ∨ c = TO ∨ c = i1 ∨ c = i2 := by simpa using h
theorem ZSt.live {z TI TO i1 i2 a b : Addr} {i : Nat} {h : Heap} (st : ZSt z TI TO i1 i2 a b i h) {c : Addr} (hc : c ∈ [z, TI, TO, i1, i2]) : ∃ o, h.get? c = some o ∧ ∀ v, o.data ≠ .cell v := by
  obtain ⟨h1, h2, ⟨x, y, h3⟩, ⟨p, e4, _, d4⟩, ⟨q, e5, _, d5⟩⟩ := st
  rcases mem5 hc with e | e | e | e | e <;> subst e
  · exact ⟨_, h1, fun v q => nomatch q⟩
  · exact ⟨_, h2, fun v q => nomatch q⟩
  · exact ⟨_, h3, fun v q => nomatch q⟩
  · exact ⟨p, e4, fun v q => by rw [d4] at q; cases q⟩
  · exact ⟨q, e5, fun v z => by rw [d5] at z; cases z⟩
theorem sep_of {n a b : Addr} (ha : a < n) (hb : b < n) : ZipSep2 (n + 4) (n + 2) (n + 3) n (n + 1) [n, a] [n + 1, b] := by
  have e : ∀ k j : Nat, k ≠ j → n + k ≠ n + j := fun k j h z => h (Nat.add_left_cancel z)
  have ne : ∀ {c : Addr} (k : Nat), c < n → n + k ≠ c := fun k h z => Nat.lt_irrefl n (Nat.lt_of_le_of_lt (Nat.le_add_right n k) (z ▸ h))
  constructor
  · exact e 2 4 (by decide)
  · exact e 3 4 (by decide)
  · exact e 2 3 (by decide)
  · exact e 2 0 (by decide)
  · simp
  · simp only [List.mem_cons, List.not_mem_nil, or_false, not_or]; exact ⟨e 4 0 (by decide), ne 4 ha⟩
  · simp only [List.mem_cons, List.not_mem_nil, or_false, not_or]; exact ⟨e 3 0 (by decide), ne 3 ha⟩
  · exact e 2 1 (by decide)
  · simp
  · simp only [List.mem_cons, List.not_mem_nil, or_false, not_or]; exact ⟨e 4 1 (by decide), ne 4 hb⟩
  · simp only [List.mem_cons, List.not_mem_nil, or_false, not_or]; exact ⟨e 3 1 (by decide), ne 3 hb⟩
  · simp only [List.mem_cons, List.not_mem_nil, or_false, not_or]; exact ⟨e 0 1 (by decide), ne 0 hb⟩
  · simp only [List.mem_cons, List.not_mem_nil, or_false, not_or]; exact ⟨e 1 0 (by decide), ne 1 ha⟩
theorem turn_zipTL {P : Program} {w : World} {K : PySem.W.Frag} {elts : List Expr} {kk : Nat} {tpos : Pos} {a b z TI TO i1 i2 : Addr} (D : ZipSep2 z TI TO i1 i2 [i1, a] [i2, b]) (hai : a ≠ i1) (hbi : b ≠ i2) (hz1 : i1 ≠ z) (hz2 : i2 ≠ z) :
    Turn P w K (.Tuple elts kk tpos) (ItzTL K a b) [z, TI, TO, i1, i2] z (ZSt z TI TO i1 i2 a b) where
  mem := by simp
  obj := fun i h st c hc => st.live hc
  keep := fun i h h' st k => by
    obtain ⟨h1, h2, ⟨x, y, h3⟩, h4, h5⟩ := st
    exact ⟨k z (by simp) _ h1, k TI (by simp) _ h2, ⟨x, y, k TO (by simp) _ h3⟩, h4.at fun o q => k i1 (by simp) o q, h5.at fun o q => k i2 (by simp) o q⟩
  item := by
    intro X hP hw hK hc i pins s σ H E I hf st hg
    subst hP hw hK
    obtain ⟨g1, g2, ⟨x0, y0, g3⟩, g4, g5⟩ := id st
    obtain ⟨xs, ys, x, y, hqx, hqy, hx, hy⟩ := hg
    obtain ⟨its, rv, p, _⟩ := I.tuple hqx
    obtain ⟨its2, rv2, p2, _⟩ := I.list hqy
    obtain ⟨u, hu, ru⟩ := rv.get hx
    obtain ⟨u2, hu2, ru2⟩ := rv2.get hy
    have ht : s.heap.IsTuple a its.toArray := p
    have lt1 : i < its.toArray.size := by have := (List.getElem?_eq_some_iff.mp hu).1; simpa using this
    have lt2 : i < its2.toArray.size := by have := (List.getElem?_eq_some_iff.mp hu2).1; simpa using this
    have zl : z < s.heap.objs.size := Heap.lt_size g1
    refine wpAny_pyNext_zipD2_item D (PySem.Draws.tuple (A := X.A.in1) (I.ok.hd hc) i1 a hai its.toArray) (PySem.Draws.list (A := X.A.in1) (I.ok.hd hc) i2 b hbi its2.toArray) g1 g2 g3 ⟨g4, ht⟩ ⟨g5, p2.isList⟩ lt1 lt2
      fun v1 v2 h' tk e1 e2 z' t' s1 s2 hT hsz hk => ?_
    have ev1 : v1 = u := by
      have h1 : its.toArray[i]? = some u := by simpa using hu
      rw [e1] at h1
      exact Option.some.inj h1
    have ev2 : v2 = u2 := by
      have h1 : its2.toArray[i]? = some u2 := by simpa using hu2
      rw [e2] at h1
      exact Option.some.inj h1
    subst ev1
    subst ev2
    refine ⟨_, rfl, wpAny_letOwnedTupleGo_zip (s := { s with heap := h', toks := tk }) z' fun h2 z2 sb => ?_⟩
    have nz : s.heap.objs.size ≠ z := Nat.ne_of_gt zl
    have hT2 : h2.get? s.heap.objs.size = some { cls := .type "tuple", data := .seq #[v1, v2] } := (sb.2 _ nz).trans hT
    have old : ∀ c o, c ∉ [z, TI, TO, i1, i2] → s.heap.get? c = some o → h2.get? c = some o := fun c o hm q => by
      simp only [List.mem_cons, List.not_mem_nil, or_false, not_or] at hm
      exact (sb.2 c hm.1).trans (hk c o hm.1 hm.2.2.1 hm.2.2.2.1 hm.2.2.2.2 q)
    have new : ObjOk X.prog X.w (upd H s.heap.objs.size (.tup [x, y])) h2 s.heap.objs.size (.tup [x, y]) :=
      ⟨by show 2 ≤ sizeLine; decide, [v1, v2], .cons ru (.cons ru2 .nil), ⟨_, hT2, rfl, _, rfl⟩⟩
    have I1 := I.turnedNew (t' := tk) (ch := [z, TI, TO, i1, i2]) (h' := h2) old hf (Nat.le_refl _) new
    refine ⟨.ref s.heap.objs.size, _, I1, rfl, ⟨_, x, y, rfl, I.hok.fresh (Nat.le_refl _), rfl, fun l hl => by rw [I.tuple_inj hl hqx]; exact hx, fun l hl => by rw [I.list_inj hl hqy]; exact hy⟩,
      ⟨z2, (sb.2 _ D.TIz).trans (hk _ _ D.TIz D.TITO D.TIi1 D.TIi2 g2), ⟨v1, v2, (sb.2 _ D.TOz).trans t'⟩, s1.1.at fun o q => (sb.2 _ hz1).trans q, s2.1.at fun o q => (sb.2 _ hz2).trans q⟩, fun c hm => ?_⟩
    obtain ⟨o, ho, _⟩ := st.live hm
    rw [upd_ne (Nat.ne_of_lt (Heap.lt_size ho))]
    exact (hf c hm).1
  done := by
    intro X hP hw hK hc i pins s σ H E I hf st hg
    subst hP hw hK
    obtain ⟨g1, g2, ⟨x0, y0, g3⟩, g4, g5⟩ := st
    obtain ⟨xs, ys, hqx, hqy, hend⟩ := hg
    obtain ⟨its, rv, p, _⟩ := I.tuple hqx
    obtain ⟨its2, rv2, p2, _⟩ := I.list hqy
    have ht : s.heap.IsTuple a its.toArray := p
    have l1 := rv.length
    have l2 := rv2.length
    have fin : ∀ (h' : Heap) (tk : Nat), (∀ c o, c ≠ z → c ≠ TO → c ≠ i1 → c ≠ i2 → s.heap.get? c = some o → h'.get? c = some o) → (none : Option Value) = none ∧ Inv X pins σ H { s with heap := h', toks := tk } := fun h' tk hk =>
      ⟨rfl, I.turnedL (t' := tk) (ch := [z, TI, TO, i1, i2]) (fun c o hb q => by
        simp only [List.mem_cons, List.not_mem_nil, or_false, not_or] at hb
        exact hk c o hb.1 hb.2.2.1 hb.2.2.2.1 hb.2.2.2.2 q) hf⟩
    have hh := I.ok.hd hc
    by_cases c1 : its.toArray.size ≤ i
    · by_cases c2 : its2.toArray.size ≤ i
      · exact wpAny_pyNext_zipD2_end D (Draws.tupEnd (A := X.A.in1) hh i1 a its.toArray i c1) (Draws.lstEnd (A := X.A.in1) hh i2 b its2.toArray i c2) g1 g2 g3 ⟨rfl, g4, ht⟩ ⟨rfl, g5, p2.isList⟩ (Nat.le_refl _) (Nat.le_refl _) (.inl rfl) fin
      · exact wpAny_pyNext_zipD2_end D (Draws.tupEnd (A := X.A.in1) hh i1 a its.toArray i c1) (PySem.Draws.list (A := X.A.in1) hh i2 b hbi its2.toArray) g1 g2 g3 ⟨rfl, g4, ht⟩ ⟨g5, p2.isList⟩ (Nat.le_refl _) (by omega) (.inl rfl) fin
    · have c2 : its2.toArray.size ≤ i := by
        simp only [List.size_toArray] at c1 ⊢
        omega
      exact wpAny_pyNext_zipD2_end D (PySem.Draws.tuple (A := X.A.in1) hh i1 a hai its.toArray) (Draws.lstEnd (A := X.A.in1) hh i2 b its2.toArray i c2) g1 g2 g3 ⟨g4, ht⟩ ⟨rfl, g5, p2.isList⟩ (by omega) (Nat.le_refl _) (.inr rfl) fin
  self := fun A i s Q E st h => wpAny_pyIter_zip st.1 h
def iZipTL (K : PySem.W.Frag) (ta : TA) : TI := fun σ H R => ta σ H fun vs H1 => ∃ a b xs ys, vs = [.ref a, .ref b] ∧ SqT K H1 a xs ∧ SqL K H1 b ys ∧ R (ItzTL K a b) H1
theorem pi_zipTL {X : Cx} {e e2 : Expr} {ta : TA} {p pos tpos : Pos} {elts : List Expr} {kk : Nat} (hg : Gl X "zip") (hm : X.mg "zip" = none) (ha : PA X [e, e2] ta)
    (hs : starEach [e, e2] X.env = (false, eval e X.env) :: starEach [e2] X.env := by rfl) (hpl : (backTo pos (starEach [e2] X.env)).any (·.1) = false := by rfl) :
    PI X (.Tuple elts kk tpos) (.Call (.Name "zip" p) [e, e2] [] pos) (iZipTL X.K ta) := by
  refine ⟨fun pins s σ H R I h => ?_⟩
  refine Call_ (ld_blt I hg hm PyProof.Rows.boot_zip (PyProof.Rows.callWith_type1 (thn (ha.run pos pins s σ H _ I h) fun us s1 ⟨vs, H1, I1, r1, a, b, xs, ys, ex, hqx, hqy, q⟩ => ?_) hs hpl))
  subst ex
  obtain ⟨u1, u2, rfl, ra, rb⟩ := vals2 r1
  cases ra
  cases rb
  obtain ⟨its, rv, p1, _⟩ := I1.tuple hqx
  obtain ⟨its2, rv2, p2, _⟩ := I1.list hqy
  have ht : s1.heap.IsTuple a its.toArray := p1
  have al : a < s1.heap.objs.size := by obtain ⟨_, e, _⟩ := ht; exact Heap.lt_size e
  refine zip_begins2 (begins_tuple a its.toArray) (begins_list b its2.toArray) ht p2.isList fun h' hz hTI hTO k1 k2 hsz hk => wpAny_pyIter_zip hz ?_
  have I2 : Inv X pins σ H1 { s1 with heap := h' } := I1.kept (t' := s1.toks) hk
  have n1 : ∀ k : Nat, s1.heap.objs.size + (k + 1) ≠ s1.heap.objs.size := fun k z => absurd (Nat.add_left_cancel (show s1.heap.objs.size + (k + 1) = s1.heap.objs.size + 0 from z)) (Nat.succ_ne_zero k)
  have n2 : s1.heap.objs.size + 1 ≠ s1.heap.objs.size + 4 := fun z => absurd (Nat.add_left_cancel z) (by decide)
  refine ⟨s1.heap.objs.size + 4, _, _, _, H1, rfl, I2, turn_zipTL (sep_of al p2.lt) (Nat.ne_of_lt al) (Nat.ne_of_lt (Nat.lt_succ_of_lt p2.lt)) (Ne.symm (n1 3)) n2, ⟨hz, hTI, ⟨_, _, hTO⟩, ⟨_, k1, rfl, rfl⟩, ⟨_, k2, rfl, rfl⟩⟩, fun c hm => ?_, q⟩
  have hle : s1.heap.objs.size ≤ c := by
    rcases mem5 hm with e | e | e | e | e <;> rw [e]
    · exact Nat.le_add_right _ _
    · exact Nat.le_add_right _ _
    · exact Nat.le_add_right _ _
    · exact Nat.le_refl _
    · exact Nat.le_add_right _ _
  exact I1.fpOk hle (I1.hok.fresh hle)
theorem walk_zipTL {K : PySem.W.Frag} {a b : Addr} {xs ys : List V} {n : Nat} (hn : n = min xs.length ys.length) : Walk (ItzTL K a b) n (fun H => SqT K H a xs ∧ SqL K H b ys) (YPair (fun i => xs[i]?) (fun i => ys[i]?)) := by
  subst hn
  refine ⟨fun i H hi q => ?_, fun _ q => ⟨xs, ys, q.1, q.2, by omega⟩, fun i H v H' _ q y => ?_⟩
  · have h1 : i < xs.length := by omega
    have h2 : i < ys.length := by omega
    exact ⟨xs, ys, xs[i], ys[i], q.1, q.2, by simp [h1], by simp [h2]⟩
  · obtain ⟨T, x, y, e1, e2, e3, e4, e5⟩ := y
    exact ⟨T, x, y, e1, e2, e3, e4 xs q.1, e5 ys q.2⟩
theorem walk_zipT {K : PySem.W.Frag} {a b : Addr} {xs ys : List V} {n : Nat} (hn : n = min xs.length ys.length) : Walk (ItzT K a b) n (fun H => SqT K H a xs ∧ SqT K H b ys) (YPair (fun i => xs[i]?) (fun i => ys[i]?)) := by
  subst hn
  refine ⟨fun i H hi q => ?_, fun _ q => ⟨xs, ys, q.1, q.2, by omega⟩, fun i H v H' _ q y => ?_⟩
  · have h1 : i < xs.length := by omega
    have h2 : i < ys.length := by omega
    exact ⟨xs, ys, xs[i], ys[i], q.1, q.2, by simp [h1], by simp [h2]⟩
  · obtain ⟨T, x, y, e1, e2, e3, e4, e5⟩ := y
    exact ⟨T, x, y, e1, e2, e3, e4 xs q.1, e5 ys q.2⟩
end HE
/-! dicts of the top whose values are tuples: k in d, d[k]; blocks that are never run; data -/
namespace HD
open PySem PySem.Spec PySem.Calls PyProof.Rows L2 HB HH
section
variable {X : Cx} {a : Addr} {kvs : List (Str × List V)}
theorem _root_.HH.DT.ns {K : PySem.W.Frag} {w : World} (D : DT K w a kvs) (z : Str) : ∃ r, PySem.W.nsIn K a z = some r ∧ r.isSome = decide (z ∈ kvs.map (·.1)) := by
  by_cases h : z ∈ kvs.map (·.1)
  · obtain ⟨q, hq, rfl⟩ := List.mem_map.mp h
    obtain ⟨t, e, _⟩ := D.there q hq
    exact ⟨_, e, by rw [decide_eq_true h]; rfl⟩
  · exact ⟨_, D.miss z h, by rw [decide_eq_false h]; rfl⟩
def rInDT (a : Addr) (kvs : List (Str × List V)) (neg : Bool) : R2 := fun x y H Q => ∃ z : Str, x = .str z ∧ y = .ref a ∧ Q (.bl (if neg then !decide (z ∈ kvs.map (·.1)) else decide (z ∈ kvs.map (·.1)))) H
theorem op_in_dt (D : DT X.K X.w a kvs) : OpR X (compareOp .In) (rInDT a kvs false) := by
  obtain ⟨es, n, kd⟩ := D.kd
  intro pins s σ H x y v u Q I rx ry h
  obtain ⟨z, e1, e2, q⟩ := h
  obtain ⟨r, er, es'⟩ := D.ns z
  exact op_in_kd kd pins s σ H x y v u Q I rx ry ⟨z, r, e1, e2, er, by rw [es']; exact q⟩
theorem op_notIn_dt (D : DT X.K X.w a kvs) : OpR X (compareOp .NotIn) (rInDT a kvs true) := by
  obtain ⟨es, n, kd⟩ := D.kd
  intro pins s σ H x y v u Q I rx ry h
  obtain ⟨z, e1, e2, q⟩ := h
  obtain ⟨r, er, es'⟩ := D.ns z
  exact op_notIn_kd kd pins s σ H x y v u Q I rx ry ⟨z, r, e1, e2, er, by rw [es']; exact q⟩
def rIxDT (K : PySem.W.Frag) (a : Addr) (kvs : List (Str × List V)) : R2 := fun x y H Q => ∃ q ∈ kvs, x = .ref a ∧ y = .str q.1 ∧ ∀ t : Addr, (∀ H' : Hp, SqT K H' t q.2) → Q (.ref t) H
theorem ix_dt (D : DT X.K X.w a kvs) : IxR X (rIxDT X.K a kvs) := by
  obtain ⟨es, n, kd⟩ := D.kd
  intro value slice pins s σ H x y v u Q I rx ry h hs
  obtain ⟨q, hq, e1, e2, k⟩ := h
  obtain ⟨t, et, ht⟩ := D.there q hq
  exact ix_kdict value slice pins s σ H x y v u Q I rx ry ⟨a, q.1, .ref t, e1, e2, ⟨es, n, _, kd.at_, kd.lit, et, rfl⟩, k t ht⟩ hs
/-- a block that is never run -/
def tDead : TS := fun _ _ _ => False
theorem pss_dead {b : List Stmt} : PSs X b tDead := ⟨fun _ _ _ _ _ _ h => h.elim⟩
end
/-! ### data: kinds, sizes -/
mutual
/-- texts and displays of a size that the rules take -/
def okD : PyData → Bool
  | .str z => decide (z.length ≤ 100000)
  | .list xs => decide (xs.length ≤ 10000) && okAll xs
  | .tuple xs => decide (xs.length ≤ 10000) && okAll xs
  | _ => true
def okAll : List PyData → Bool
  | [] => true
  | x :: xs => okD x && okAll xs
end
theorem okAll_mem : ∀ {xs : List PyData}, okAll xs = true → ∀ x ∈ xs, okD x = true
  | y :: ys, h, x, hx => by
    simp only [okAll, Bool.and_eq_true] at h
    rcases List.mem_cons.mp hx with rfl | hx
    · exact h.1
    · exact okAll_mem h.2 x hx
/-- the kind's name -/
def kindD : PyData → String
  | .none => "NoneType"
  | .bool _ => "bool"
  | .int _ => "int"
  | .str _ => "str"
  | .list _ => "list"
  | .tuple _ => "tuple"
  | _ => ""
theorem dp_ty {K : PySem.W.Frag} {H : Hp} {v : V} {d : PyData} (h : Dp K H v d) : TyX K H v (.type (kindD d)) ∧ kindD d ∈ ["NoneType", "bool", "int", "str", "list", "tuple"] := by
  cases h with
  | non => exact ⟨.base .non, by simp [kindD]⟩
  | bl b => exact ⟨.base (.bl b), by simp [kindD]⟩
  | int i => exact ⟨.base (.int i), by simp [kindD]⟩
  | str x => exact ⟨.base (.str x), by simp [kindD]⟩
  | lst h _ =>
    refine ⟨?_, by simp [kindD]⟩
    rcases h with (h | ⟨o, h⟩) | ⟨o, its, n, h, c, _⟩
    · exact .base (.lst h)
    · exact .base (.frz h)
    · exact .kList h c
  | tup h _ =>
    refine ⟨?_, by simp [kindD]⟩
    rcases h with (h | ⟨o, h⟩) | ⟨o, its, n, h, c, _⟩
    · exact .base (.tup h)
    · exact .fTuple h
    · exact .kTuple h c
/-- isinstance(x, k) of data -/
theorem kit_dat {K : PySem.W.Frag} {d : PyData} {k : String} (hk : k ∈ ["str", "tuple", "bool"]) (h : kindD d ∈ ["NoneType", "bool", "int", "str", "list", "tuple"]) : PySem.W.kitOne K (.type (kindD d)) (.type k) = some (decide (kindD d = k)) := by
  have : kitB (kindD d) k = some (decide (kindD d = k)) := by
    generalize kindD d = j at h
    simp only [List.mem_cons, List.not_mem_nil, or_false] at hk h
    rcases hk with rfl | rfl | rfl <;> rcases h with rfl | rfl | rfl | rfl | rfl | rfl <;> decide +kernel
  exact kit_ty this
theorem kit_datInt {K : PySem.W.Frag} {d : PyData} (h : kindD d ∈ ["NoneType", "bool", "int", "str", "list", "tuple"]) : PySem.W.kitOne K (.type (kindD d)) (.type "int") = some (decide (kindD d = "int" ∨ kindD d = "bool")) := by
  have : kitB (kindD d) "int" = some (decide (kindD d = "int" ∨ kindD d = "bool")) := by
    generalize kindD d = j at h
    simp only [List.mem_cons, List.not_mem_nil, or_false] at h
    rcases h with rfl | rfl | rfl | rfl | rfl | rfl <;> decide +kernel
  exact kit_ty this
end HD
/-! dicts of texts: as lists of pairs; sorted pairs of texts -/
namespace HS
open PySem PySem.Spec PyProof.Rows L2 HX HB
/-- a dict of texts -/
def dz (ts : List (Str × Str)) : List (Key × V) := ts.map fun p => (Sum.inr p.1, .str p.2)
def lookS (ts : List (Str × Str)) (k : Str) : Option Str := (ts.find? fun p => decide (p.1 = k)).map (·.2)
theorem lookS_val (ts : List (Str × Str)) (k : Str) : valV (dz ts) (Sum.inr k : Key) = (lookS ts k).map V.str := by
  unfold valV dz lookS
  rw [List.find?_map]
  have e : ((fun kv : Key × V => decide (kv.1 = Sum.inr k)) ∘ fun p : Str × Str => (Sum.inr p.1, V.str p.2)) = fun p : Str × Str => decide (p.1 = k) := by
    funext p
    show decide ((Sum.inr p.1 : Key) = Sum.inr k) = _
    rw [key_rr]
  rw [e]
  cases ts.find? fun p => decide (p.1 = k) <;> rfl
theorem nodup_fst : ∀ {ks : List (Str × Str)}, (ks.map (·.1)).Nodup → ∀ {p q : Str × Str}, p ∈ ks → q ∈ ks → p.1 = q.1 → p = q
  | [], _, p, _, hp, _, _ => by cases hp
  | a :: l, h, p, q, hp, hq, he => by
    rw [List.map_cons, List.nodup_cons] at h
    rcases List.mem_cons.mp hp with e1 | hp' <;> rcases List.mem_cons.mp hq with e2 | hq'
    · rw [e1, e2]
    · subst e1; exact absurd (List.mem_map.mpr ⟨q, hq', he.symm⟩) h.1
    · subst e2; exact absurd (List.mem_map.mpr ⟨p, hp', he⟩) h.1
    · exact nodup_fst h.2 hp' hq' he
theorem lookS_mem {ts : List (Str × Str)} (h : (ts.map (·.1)).Nodup) {k w : Str} : lookS ts k = some w ↔ (k, w) ∈ ts := by
  unfold lookS
  constructor
  · intro e
    cases e1 : ts.find? fun p => decide (p.1 = k) with
    | none => rw [e1] at e; cases e
    | some p =>
      rw [e1] at e
      cases e
      have h1 := List.mem_of_find?_eq_some e1
      have h2 : p.1 = k := by have := List.find?_some e1; simpa using this
      rw [← h2]
      exact h1
  · intro hm
    cases e1 : ts.find? fun p => decide (p.1 = k) with
    | none => exact absurd (List.find?_eq_none.mp e1 _ hm) (by simp)
    | some p =>
      have h1 := List.mem_of_find?_eq_some e1
      have h2 : p.1 = k := by have := List.find?_some e1; simpa using this
      rw [nodup_fst h h1 hm h2]
      rfl
theorem merge_new : ∀ (more acc : List (Key × V)), ((acc ++ more).map (·.1)).Nodup → mergeK acc more = acc ++ more
  | [], acc, _ => by rw [List.append_nil]; rfl
  | (k, v) :: more, acc, h => by
    have hk : valV acc k = none := by
      unfold valV
      cases e : acc.find? fun kv => decide (kv.1 = k) with
      | none => rfl
      | some p =>
        have hp := List.mem_of_find?_eq_some e
        have he := List.find?_some e
        rw [List.map_append, List.map_cons, List.nodup_append] at h
        exact absurd (of_decide_eq_true he) (h.2.2 _ (List.mem_map.mpr ⟨p, hp, rfl⟩) _ (List.mem_cons_self ..))
    show mergeK (putK acc k v) more = _
    rw [putK_new v hk, merge_new more (acc ++ [(k, v)]) (by rwa [List.append_assoc]), List.append_assoc]
    rfl
theorem dz_new {ts : List (Str × Str)} (h : (ts.map (·.1)).Nodup) : mergeK [] (dz ts) = dz ts := by
  refine merge_new (dz ts) [] ?_
  rw [List.nil_append]
  unfold dz
  rw [List.map_map]
  have e : (((fun kv : Key × V => kv.1) ∘ fun p : Str × Str => ((Sum.inr p.1 : Key), V.str p.2)) : Str × Str → Key) = (fun s : Str => (Sum.inr s : Key)) ∘ fun p => p.1 := rfl
  rw [e, ← List.map_map]
  exact List.Pairwise.map _ (fun a b hab z => hab (Sum.inr.inj z)) h
theorem paired_at {α β : Type} {F : α → β → Prop} : ∀ {l : List α} {m : List β}, Paired F l m → ∀ {i : Nat} {a : α}, l[i]? = some a → ∃ b, m[i]? = some b ∧ F a b
  | _, _, .nil, i, a, h => by simp at h
  | _, _, .cons x t, 0, a, h => by cases h; exact ⟨_, rfl, x⟩
  | _, _, .cons x t, i + 1, a, h => paired_at t (by simpa using h)
theorem paired_imp {α β : Type} {F G : α → β → Prop} (h : ∀ a b, F a b → G a b) : ∀ {l : List α} {m : List β}, Paired F l m → Paired G l m
  | _, _, .nil => .nil
  | _, _, .cons x t => .cons (h _ _ x) (paired_imp h t)
/-! ### dicts of texts, written -/
def putZ (ts : List (Str × Str)) (k w : Str) : List (Str × Str) :=
  if (ts.any fun p => decide (p.1 = k)) = true then ts.map (fun p => if p.1 = k then (p.1, w) else p) else ts ++ [(k, w)]
theorem putZ_dz (ts : List (Str × Str)) (k w : Str) : putK (dz ts) (Sum.inr k : Key) (.str w) = dz (putZ ts k w) := by
  unfold putK putZ dz
  have e : ((ts.map fun p => ((Sum.inr p.1 : Key), V.str p.2)).any fun kv => decide (kv.1 = (Sum.inr k : Key))) = ts.any fun p => decide (p.1 = k) := by
    rw [List.any_map]
    congr 1
    funext p
    show decide ((Sum.inr p.1 : Key) = Sum.inr k) = _
    rw [key_rr]
  rw [e]
  split
  · rw [List.map_map, List.map_map]
    apply List.map_congr_left
    intro p _
    show (if (Sum.inr p.1 : Key) = Sum.inr k then _ else _) = ((Sum.inr (if p.1 = k then (p.1, w) else p).1 : Key), V.str (if p.1 = k then (p.1, w) else p).2)
    by_cases h : p.1 = k
    · rw [if_pos (congrArg Sum.inr h), if_pos h]
    · rw [if_neg (fun z => h (Sum.inr.inj z)), if_neg h]
  · rw [List.map_append]; rfl
theorem putZ_keys (ts : List (Str × Str)) (k w : Str) : (putZ ts k w).map (·.1) = if (ts.any fun p => decide (p.1 = k)) = true then ts.map (·.1) else ts.map (·.1) ++ [k] := by
  unfold putZ
  split
  · rw [List.map_map]
    apply List.map_congr_left
    intro p _
    show (if p.1 = k then (p.1, w) else p).1 = p.1
    split <;> rfl
  · rw [List.map_append]; rfl
theorem putZ_nd {ts : List (Str × Str)} (h : (ts.map (·.1)).Nodup) (k w : Str) : ((putZ ts k w).map (·.1)).Nodup := by
  rw [putZ_keys]
  split
  · exact h
  · rename_i hn
    rw [List.nodup_append]
    refine ⟨h, by simp, fun a ha b hb e => hn ?_⟩
    rw [List.mem_singleton] at hb
    obtain ⟨p, hp, rfl⟩ := List.mem_map.mp ha
    exact List.any_eq_true.mpr ⟨p, hp, decide_eq_true (e.trans hb)⟩
theorem putZ_len (ts : List (Str × Str)) (k w : Str) : (putZ ts k w).length ≤ ts.length + 1 := by
  have h := congrArg List.length (putZ_keys ts k w)
  rw [List.length_map] at h
  rw [h]
  split
  · rw [List.length_map]; omega
  · rw [List.length_append, List.length_map]; exact Nat.le_refl _
def mergeZ (ts more : List (Str × Str)) : List (Str × Str) := more.foldl (fun acc p => putZ acc p.1 p.2) ts
theorem mergeZ_dz : ∀ (more ts : List (Str × Str)), mergeK (dz ts) (dz more) = dz (mergeZ ts more)
  | [], ts => rfl
  | p :: more, ts => by
    show mergeK (putK (dz ts) (Sum.inr p.1 : Key) (.str p.2)) (dz more) = dz (mergeZ (putZ ts p.1 p.2) more)
    rw [putZ_dz, mergeZ_dz more]
theorem mergeZ_nd : ∀ (more : List (Str × Str)) {ts : List (Str × Str)}, (ts.map (·.1)).Nodup → ((mergeZ ts more).map (·.1)).Nodup
  | [], _, h => h
  | p :: more, _, h => mergeZ_nd more (putZ_nd h p.1 p.2)
theorem mergeZ_len : ∀ (more ts : List (Str × Str)), (mergeZ ts more).length ≤ ts.length + more.length
  | [], ts => Nat.le_refl _
  | p :: more, ts => by
    have h1 := mergeZ_len more (putZ ts p.1 p.2)
    have h2 := putZ_len ts p.1 p.2
    show (mergeZ (putZ ts p.1 p.2) more).length ≤ _
    rw [List.length_cons]
    omega
/-! ### a permutation of images -/
theorem perm_map {α β : Type} (f : α → β) : ∀ {zs ys : List β}, zs.Perm ys → ∀ L : List α, ys = L.map f → ∃ L' : List α, L'.Perm L ∧ zs = L'.map f := by
  intro zs ys h
  induction h with
  | nil =>
    intro L e
    cases L with
    | nil => exact ⟨[], .nil, rfl⟩
    | cons _ _ => cases e
  | cons x _ ih =>
    intro L e
    cases L with
    | nil => cases e
    | cons a L =>
      obtain ⟨e1, e2⟩ := List.cons.inj e
      obtain ⟨L', p, r⟩ := ih L e2
      exact ⟨a :: L', p.cons a, by rw [List.map_cons, ← r, ← e1]⟩
  | swap x y l =>
    intro L e
    match L, e with
    | a :: b :: L, e =>
      obtain ⟨e1, e2⟩ := List.cons.inj e
      obtain ⟨e3, e4⟩ := List.cons.inj e2
      exact ⟨b :: a :: L, List.Perm.swap a b L, by rw [List.map_cons, List.map_cons, e1, e3, e4]⟩
  | trans _ _ ih1 ih2 =>
    intro L e
    obtain ⟨L1, p1, r1⟩ := ih2 L e
    obtain ⟨L2, p2, r2⟩ := ih1 L1 r1
    exact ⟨L2, p2.trans p1, r2⟩
/-! ### pairs of texts, sorted -/
def pd (q : Addr × (Str × Str)) : V × PyData := (.ref q.1, .tuple [.str q.2.1, .str q.2.2])
theorem sort_pairs {as : List Addr} {ts : List (Str × Str)} (hl : as.length = ts.length) : ∃ L : List (Addr × (Str × Str)), L.Perm (as.zip ts) ∧ sortD (as.map V.ref) (ts.map fun p => PyData.tuple [.str p.1, .str p.2]) = (L.map (·.1)).map V.ref := by
  have e : (as.map V.ref).zip (ts.map fun p => PyData.tuple [.str p.1, .str p.2]) = (as.zip ts).map pd := by
    rw [List.zip_map]
    rfl
  obtain ⟨L, p, r⟩ := perm_map pd (List.mergeSort_perm ((as.map V.ref).zip (ts.map fun p => PyData.tuple [.str p.1, .str p.2])) (PySem.W.dataLe false (·.2))) (as.zip ts) e
  refine ⟨L, p, ?_⟩
  unfold sortD
  rw [r, List.map_map, List.map_map]
  rfl
theorem pairs_alike (ts : List (Str × Str)) : PySem.W.AllAlike (ts.map fun p => PyData.tuple [.str p.1, .str p.2]) := by
  intro d hd d' hd'
  obtain ⟨p, _, rfl⟩ := List.mem_map.mp hd
  obtain ⟨q, _, rfl⟩ := List.mem_map.mp hd'
  rfl
theorem pairs_sortable (ts : List (Str × Str)) : PySem.W.Sortable (ts.map fun p => PyData.tuple [.str p.1, .str p.2]) := by
  refine .inl fun d hd => ?_
  obtain ⟨p, _, rfl⟩ := List.mem_map.mp hd
  exact ⟨_, _, rfl⟩
theorem pairs_depth (ts : List (Str × Str)) : ∀ d ∈ ts.map (fun p => PyData.tuple [.str p.1, .str p.2]), d.depth ≤ 60 := by
  intro d hd
  obtain ⟨p, _, rfl⟩ := List.mem_map.mp hd
  simp only [PyData.depth, PyData.depthAll]
  decide
theorem paired_zip {α β : Type} {F : α → β → Prop} : ∀ {l : List α} {m : List β}, Paired F l m → ∀ q ∈ l.zip m, F q.1 q.2
  | _, _, .nil, q, h => by cases h
  | _, _, .cons x t, q, h => by
    rw [List.zip_cons_cons] at h
    rcases List.mem_cons.mp h with rfl | h
    · exact x
    · exact paired_zip t q h
theorem paired_of {α β : Type} {F : α → β → Prop} : ∀ L : List (α × β), (∀ q ∈ L, F q.1 q.2) → Paired F (L.map (·.1)) (L.map (·.2))
  | [], _ => .nil
  | q :: L, h => .cons (h q (List.mem_cons_self ..)) (paired_of L fun x hx => h x (List.mem_cons_of_mem _ hx))
theorem paired_mapR {α β γ : Type} {F : α → γ → Prop} (g : β → γ) : ∀ {l : List α} {m : List β}, Paired F l (m.map g) → Paired (fun a b => F a (g b)) l m
  | _, [], .nil => .nil
  | _, _ :: _, .cons x t => .cons x (paired_mapR g t)
theorem paired_mapR' {α β γ : Type} {F : α → γ → Prop} (g : β → γ) : ∀ {l : List α} {m : List β}, Paired (fun a b => F a (g b)) l m → Paired F l (m.map g)
  | _, _, .nil => .nil
  | _, _, .cons x t => .cons x (paired_mapR' g t)
theorem dp_pairs {K : PySem.W.Frag} {H : Hp} : ∀ {as : List Addr} {ts : List (Str × Str)}, Paired (fun (t : Addr) (p : Str × Str) => H t = some (.tup [.str p.1, .str p.2])) as ts → DpAll K H (as.map V.ref) (ts.map fun p => PyData.tuple [.str p.1, .str p.2])
  | _, _, .nil => .nil
  | _, _, .cons x t => .cons (.tup (stt x) (.cons (.str _) (.cons (.str _) .nil))) (dp_pairs t)
end HS
/-! y = {k: v for ..}: a dict comprehension given to a local name -/
namespace HD
open PySem PySem.Spec PySem.Calls PyProof.Rows L2
section
variable {X : Cx}
theorem sw_dict {kx vx : Expr} {gs : List Comprehension} {scope : Scope} {pos py : Pos} {y : Str} {l : Nat} {env : Env} (hk : env.scope.kind = .function) (hy : env.scope.names.lookup y = some .local) (hl : (py.line == pos.line) = true)
    (ha : (scope.names.any fun (n, k) => n == y && (k == .local || k == .cell)) = false) : swapsWith (.DictComp kx vx gs scope pos) (some (.Name y py)) l env = pure true := by
  have k1 : env.blockKind = .function := by
    unfold Env.blockKind
    rw [hk] <;> rfl
  have k2 : env.kindOf y = some .local := hy
  unfold swapsWith
  simp only [k1, k2, ha, Expr.pos, hl]
  rfl
theorem ps_setDc {i : Nat} {y : Str} {py : Pos} {kx vx tg iter : Expr} {ifs : List Expr} {scope : Scope} {own : List (Str × Nat)} {pos spos : Pos} {wi : TI} {g : TG} {tt : TT} {tk tv : TE} (hc : X.calm = true) (hN : X.N.Nodup) (hy : X.N[i]? = some y) (hyl : X.env.scope.names.lookup y = some .local)
    (hsw : swapsWith (.DictComp kx vx [⟨tg, iter, ifs, 0⟩] scope pos) (some (.Name y py)) spos.line X.env = pure true) (hi : PI X tg iter wi) (ok : BlkOk X.N X.env.scope scope own)
    (hg : ∀ (s : Shared) (H : Hp) (C : Addr) (cl : List (Str × Addr)) (fp : List Addr), PG (X.blk s H scope (compEnvC scope cl C X.env) fp) tg g) (ht : ∀ (s : Shared) (H : Hp) (C : Addr) (cl : List (Str × Addr)) (fp : List Addr), PTs (X.blk s H scope (compEnvC scope cl C X.env) fp) ifs tt)
    (hk : ∀ (s : Shared) (H : Hp) (C : Addr) (cl : List (Str × Addr)) (fp : List Addr), PE (X.blk s H scope (compEnvC scope cl C X.env) fp) kx tk)
    (he : ∀ (s : Shared) (H : Hp) (C : Addr) (cl : List (Str × Addr)) (fp : List Addr), PE (X.blk s H scope (compEnvC scope cl C X.env) fp) vx tv) (hs : ∀ x, foldedSetIterable iter X.env x = pure x := by intro _; rfl) :
    PS X (.Assign [.Name y py] (.DictComp kx vx [⟨tg, iter, ifs, 0⟩] scope pos) spos) (tAsg (tDc wi g tt tk tv (own.map (·.2))) (gName i)) := by
  refine ⟨fun pins s σ H D I h => ?_⟩
  rw [exec_Assign_Name_used _ _ _ _ hsw]
  refine wpAny_bind (wpAny_standAt (wpAny_bind ?_))
  show wpAny _ X.A (do let _ ← comprehension (.DictComp kx vx [⟨tg, iter, ifs, 0⟩] scope pos) scope X.env (firstIterPos [⟨tg, iter, ifs, 0⟩] pos) newDict false (eval iter X.env) (some (assign (.Name y py) X.env))) _ _ s
  have h : tDc wi g tt tk tv (own.map (·.2)) σ H (fun x H1 => gName i x σ H1 D.nx) := h
  refine wpAny_bind (thn (dc_core (Qf := fun _ s' => SP X pins D .next s') hc hN I hi ok hg ht hk he hs h fun L C s' m H' I' q hn f => ?_) fun _ s' hq => wpAny_pure (wpAny_pure hq))
  show wpAny _ _ (assign (.Name y py) X.env (.ref L)) _ _ _
  refine wpAny_assign_Name (store_ok2 (v := V.ref L) I' hN hy (.inl hyl) rfl (fun s2 I2 ⟨a, sb, ha⟩ => ?_) (.inr hyl))
  obtain ⟨f0, f1, f2, f3, f4, f5⟩ := f
  have haC : C ≠ a := ha.elim (fun z => z ▸ f1) fun z e => f4 y a z e.symm
  exact ⟨m, hn.sameBut sb haC, fun h3 sb3 => ⟨_, H', I2.turned (t' := s2.toks) (fun b o hb e => (sb3.2 b hb).trans e) f0 f1 f3 f4 f5, q⟩⟩
end
end HD
/-! tuples: t + u of any two; t[lo:hi], the whole too -/
namespace HT2
open PySem PySem.Spec PySem.Calls PyProof.Rows L2 HT
section
variable {X : Cx}
/-- t + u: the other one where one of them is empty -/
def rCatA (K : PySem.W.Frag) : R2 := fun x y H Q => ∃ a b xs ys, x = .ref a ∧ y = .ref b ∧ SqT K H a xs ∧ SqT K H b ys ∧ xs.length + ys.length ≤ sizeLine ∧
  (xs = [] → Q (.ref b) H) ∧ (xs ≠ [] → ys = [] → Q (.ref a) H) ∧ (xs ≠ [] → ys ≠ [] → ∀ p, H p = none → Q (.ref p) (upd H p (.tup (xs ++ ys))))
theorem op_catA : OpR X (binaryOp .Add) (rCatA X.K) := by
  intro pins s σ H x y v u Q I rx ry h
  obtain ⟨a, b, xs, ys, rfl, rfl, ha, hb, hz, q0, q1, q2⟩ := h
  by_cases hx : xs = []
  · subst hx
    cases rx
    cases ry
    obtain ⟨its, r1, p1, _⟩ := I.tuple ha
    obtain ⟨its2, r2, p2, _⟩ := I.tuple hb
    cases r1
    obtain ⟨⟨c1, d1, t1, l1⟩, o1, k1, n1, m1⟩ := id p1
    obtain ⟨⟨c2, d2, t2, l2⟩, o2, k2, n2, m2⟩ := id p2
    simp only at k1 m1 k2 m2
    subst k1 m1 k2 m2
    exact concat_meets ⟨_, o1, rfl⟩ ⟨_, o2, rfl⟩ noFill_tuple_add seq_tuple_add PySem.F.slot_tuple_add PySem.F.entry_tuple_add (PySem.F.args_tuple_add_2 _ _)
      (tuple_addW0 a b _ its2.toArray n1 n2 d1 d2 l1 l2 (by simp)) ⟨o1, o2, .ref b, H, I, rfl, q0 rfl⟩
  · exact op_catT pins s σ H _ _ v u Q I rx ry ⟨a, b, xs, ys, rfl, rfl, ha, hb, hx, hz, q1 hx, q2 hx⟩
/-- the whole of a tuple is the tuple -/
theorem slice_whole {prog : Program} {w : World} {A : Around} {E : Value → Shared → Prop} {s : Shared} {t sl : Addr} {items : Array Value} {vl vu : Value} {lo hi : Option Int} {Q : Value → Shared → Prop} (ht : IsTup s.heap t items) (hs : s.heap.IsSliceOf sl vl vu .none) (pl : IsPart vl lo) (pu : IsPart vu hi)
    (hw : sIx items.size 0 lo = 0 ∧ sIx items.size items.size hi = items.size) (h : Q (.ref t) s) : wpAny (model prog w) A (getItem (.ref t) (.ref sl)) Q E s := by
  obtain ⟨os, hos, hcs, hds⟩ := id hs
  have hTs : s.TypeIs (.ref sl) "slice" := ⟨os, hos, hcs⟩
  unfold getItem
  refine wpAny_holding ?_
  refine wpAny_bind (wpAny_sequenceKey ht.typeIs (by decide) ?_)
  refine wpAny_bind (wpAny_callSpecial?_slot (name := Str.ofString "__getitem__") ht.typeIs PyProof.Rows.slot_tuple_getitem
    (wpAny_call_entry PyProof.Rows.slot_tuple_getitem ht.typeIs entry_tuple_getitem ?_ (args_tuple_getitem _ _)))
  show wpAny _ _ (Builtin.Tuple.tupleItemsOf (.ref t) >>= _) _ _ s
  refine wpAny_bind (tupleItemsOf_ ht ?_)
  refine wpAny_bind (wpAny_typeOf hTs ?_)
  rw [if_pos (by decide)]
  refine wpAny_bind (sliceApplied_gen hs pl pu ?_)
  have yes : (((sIx items.size 0 lo : Nat) : Int) == 0 && (1 : Int) == 1 && (sIx items.size items.size hi - sIx items.size 0 lo) == items.size) = true := by
    rw [hw.1, hw.2]
    simp
  show wpAny _ _ (if (((sIx items.size 0 lo : Nat) : Int) == 0 && (1 : Int) == 1 && (sIx items.size items.size hi - sIx items.size 0 lo) == items.size) = true then _ else _) _ _ s
  rw [if_pos yes]
  unfold Builtin.Tuple.tupleIsExact
  refine wpAny_bind (wpAny_bind (wpAny_typeOf ht.typeIs (wpAny_pure ?_)))
  rw [if_pos (by decide)]
  exact wpAny_bind (wpAny_rule (wpAny_pure ⟨_, rfl, wpAny_pure h⟩))
/-- t[lo:hi] -/
def rSlA (K : PySem.W.Frag) : V → Option Int → Option Int → Hp → VK → Prop := fun x lo hi H Q => ∃ a xs, x = .ref a ∧ SqT K H a xs ∧
  (HT.sIx xs.length 0 lo = 0 ∧ HT.sIx xs.length xs.length hi = xs.length → Q (.ref a) H) ∧ (¬ (HT.sIx xs.length 0 lo = 0 ∧ HT.sIx xs.length xs.length hi = xs.length) → ∀ p, H p = none → Q (.ref p) (upd H p (.tup (cutV xs lo hi))))
theorem sl_tupA : SlR X (rSlA X.K) := by
  intro pins s σ H x v vl vu lo hi sl Q I rx hs pl pu h
  obtain ⟨a, xs, rfl, hx, q1, q2⟩ := h
  by_cases hw : HT.sIx xs.length 0 lo = 0 ∧ HT.sIx xs.length xs.length hi = xs.length
  · cases rx
    obtain ⟨its, r, ht, hz⟩ := I.tuple hx
    have hlen : its.toArray.size = xs.length := by rw [List.size_toArray]; exact r.length.symm
    refine ⟨"tuple", _, PyProof.Rows.slot_tuple_getitem.lookup, ht.typeIs, ?_⟩
    exact slice_whole ht hs pl pu (by rw [hlen]; exact hw) ⟨.ref a, H, I, rfl, q1 hw⟩
  · exact sl_tup pins s σ H _ v vl vu lo hi sl Q I rx hs pl pu ⟨a, xs, rfl, hx, hw, q2 hw⟩
end
end HT2
/-! set(xs) of a list of texts: any number of them; len(set(xs)) -/
namespace HV
open PySem PySem.Spec PyProof.Rows
/-- how many unlike ones among the first i -/
def uq (xs : List Str) : Nat → Nat
  | 0 => 0
  | i + 1 => if (xs.take i).any (· == xs.getD i Str.empty) then uq xs i else uq xs i + 1
theorem uq_le (xs : List Str) : ∀ i, uq xs i ≤ i
  | 0 => Nat.le_refl _
  | i + 1 => by
    have := uq_le xs i
    unfold uq
    split <;> omega
theorem any_take {xs : List Str} {i : Nat} (h : i < xs.length) (k : Str) : ((xs.take i).any (· == k) || decide (k = xs.getD i Str.empty)) = (xs.take (i + 1)).any (· == k) := by
  have e : xs.getD i Str.empty = xs[i] := by rw [List.getD_eq_getElem?_getD, List.getElem?_eq_getElem h]; rfl
  rw [List.take_add_one, List.getElem?_eq_getElem h, List.any_append, e]
  congr 1
  show decide (k = xs[i]) = ([xs[i]].any (· == k))
  rw [List.any_cons, List.any_nil, Bool.or_false]
  exact Bool.eq_iff_iff.mpr ⟨fun q => beq_iff_eq.mpr (of_decide_eq_true q).symm, fun q => decide_eq_true (beq_iff_eq.mp q).symm⟩
theorem uq_all {xs : List Str} : ∀ i, i ≤ xs.length → (uq xs i = i ↔ (xs.take i).Nodup)
  | 0, _ => by simp [uq]
  | i + 1, hi => by
    have ih := uq_all i (Nat.le_of_succ_le hi)
    have hl := uq_le xs i
    have e : xs.getD i Str.empty = xs[i] := by rw [List.getD_eq_getElem?_getD, List.getElem?_eq_getElem hi]; rfl
    have e2 : xs.take (i + 1) = xs.take i ++ [xs[i]] := by rw [List.take_add_one, List.getElem?_eq_getElem hi]; rfl
    rw [e2, List.nodup_append]
    unfold uq
    rw [e]
    cases hb : (xs.take i).any (· == xs[i]) with
    | true =>
      rw [if_pos rfl]
      obtain ⟨y, hy, ey⟩ := List.any_eq_true.mp hb
      refine ⟨fun q => by omega, fun q => ?_⟩
      exact absurd (beq_iff_eq.mp ey) (q.2.2 y hy xs[i] (List.mem_singleton.mpr rfl))
    | false =>
      rw [if_neg Bool.false_ne_true]
      refine ⟨fun q => ⟨ih.mp (by omega), (by simp), fun a ha b hb2 ab => ?_⟩, fun q => by have := ih.mpr q.1; omega⟩
      rw [List.mem_singleton.mp hb2] at ab
      have : (xs.take i).any (· == xs[i]) = true := List.any_eq_true.mpr ⟨a, ha, beq_iff_eq.mpr ab⟩
      rw [hb] at this
      cases this
section
variable {prog : Program} {w : World} {A : Around} {R : Result → Shared → Prop} {I : Addr} {fp wr : List Addr} {G : Array GenState → Array GenState → Prop} {n : Nat} {P : Nat → Value → Prop} {St : Nat → Shared → Prop}
/-- the set after i of the texts -/
def At (prog : Program) (w : World) (xs : List Str) (S : Addr) (i : Nat) (h : Heap) : Prop := h.SetOf (PySem.strKind prog w) S (fun k' => (xs.take i).any (· == k')) (uq xs i)
theorem At.keep {xs : List Str} {S : Addr} {i : Nat} {h h' : Heap} (a : At prog w xs S i h) (k : ∀ o, h.get? S = some o → h'.get? S = some o) : At prog w xs S i h' := by
  obtain ⟨o, es, ep, t, ho, rest⟩ := a
  exact ⟨o, es, ep, t, k o ho, rest⟩
theorem loopV (W : WalksS prog w A.in1 I fp wr G n P St) (S : Addr) (nf : S ∉ fp) (xs : List Str) (len : xs.length = n) (few : n + 1 < scanBound) (val : ∀ i v, P i v → ∃ t, v = .str (xs.getD i Str.empty) t) :
    ∀ (d i : Nat) (s : Shared), i + d = n → St i s → At prog w xs S i s.heap → (∀ s', Moved (S :: wr) G s s' → At prog w xs S n s'.heap → R (.ok (.ret .none)) s') →
      codeAny (model prog w) A (.builtin "set.update.loop" ⟨[.ref S, .ref I], []⟩) R s := by
  have nw : S ∉ wr := fun h => nf (W.sub _ h)
  have grow : ∀ b ∈ wr, b ∈ S :: wr := fun b hb => List.mem_cons_of_mem _ hb
  intro d
  induction d with
  | zero =>
    rintro i s rfl hst hS hR
    refine codeAny_builtin PyProof.Rows.F.entry_set_update_loop ?_
    rw [Around.under_plainId PyProof.Rows.F.plain_set_update_loop _]
    show wpAny _ A.in1 (pyNext (.ref I) >>= _) _ _ s
    refine wpAny_bind (W.done s _ _ hst fun s' mv => ?_)
    exact wpAny_pure (hR s' (mv.mono grow) (hS.keep fun o => mv.heap S o nw))
  | succ d ih =>
    intro i s hi hst hS hR
    have lt : i < n := by omega
    refine codeAny_builtin PyProof.Rows.F.entry_set_update_loop ?_
    rw [Around.under_plainId PyProof.Rows.F.plain_set_update_loop _]
    show wpAny _ A.in1 (pyNext (.ref I) >>= _) _ _ s
    refine wpAny_bind (W.item i s _ _ lt hst fun v s' pv hst' mv => ?_)
    obtain ⟨t, rfl⟩ := val i v pv
    have hS' := hS.keep fun o => mv.heap S o nw
    show wpAny _ A.in1 (holding [Value.str (xs.getD i Str.empty) t] (setAdd S (.str (xs.getD i Str.empty) t)) >>= _) _ _ s'
    refine wpAny_bind (wpAny_holding ?_)
    unfold setAdd
    refine wpAny_holding (wpAny_bind ((PySem.strKind prog w).pyHash (k := xs.getD i Str.empty) (strKind_is _ _ _ _) ?_))
    refine wpAny_setAddHashed_of (knd := PySem.strKind prog w) (s := { s' with toks := s'.toks + 1 }) (strKind_is _ _ _ _) rfl hS' (by have := uq_le xs i; omega) fun h' same hS2 => ?_
    have next : At prog w xs S (i + 1) h' := PyProof.Rows.SetOf_congr hS2 (fun k => any_take (by omega) k) rfl
    refine wpAny_pure ⟨plainId_quiet PyProof.Rows.F.plain_set_update_loop _, ih (i + 1) _ (by omega) (W.frame _ s' _ _ hst' (Nat.le_succ _) fun b hb o e => ?_) next fun s'' mv2 hS3 => hR s'' (Moved.trans W.gtrans ((mv.mono grow).then_heap (Nat.le_succ _) fun b o hb e => ?_) mv2) hS3⟩
    · rw [same.2 b (fun h => nf (h ▸ hb))]
      exact e
    · rw [same.2 b (fun h => hb (h ▸ List.mem_cons_self))]
      exact e
end
section
variable {prog : Program} {w : World} {A : Around} {E : Value → Shared → Prop} {s : Shared}
/-- the empty set that set.__new__ lays -/
abbrev bare (led : Bool) : Obj := { cls := .type "set", dict := none, data := .set #[] 0 (.fresh 0 0 led) }
set_option maxHeartbeats 3200000 in
theorem set_texts {l : Addr} {items : Array Value} {xs : List Str} {Q : Value → Shared → Prop} (calm : A.handled = none) (hl : s.heap.IsList l items) (hi : PyProof.Rows.StrsAre items.toList xs) (few : xs.length + 1 < scanBound)
    (h : ∀ (h' : Heap) (tk : Nat), At prog w xs s.heap.objs.size xs.length h' → (∀ b o, b < s.heap.objs.size → s.heap.get? b = some o → h'.get? b = some o) → Q (.ref s.heap.objs.size) { s with heap := h', toks := tk }) :
    wpAny (model prog w) A (call (.type "set") [.ref l]) Q E s := by
  have len : xs.length = items.size := by rw [← StrsAre.len_eq hi, Array.length_toList]
  obtain ⟨c, tl, hmro⟩ := PySem.F.called_set.mro
  have hmade := PySem.F.called_set.made
  have hsub := PySem.F.called_set.sub
  have h1 := PySem.F.called_set.notType
  have h2 := PySem.F.called_set.canCreate
  have hct := PySem.F.typeCall_set_1 (.ref l)
  refine wpAny_call (codeAny_of_tree ?_)
  show wpAny _ _ (callAny (.type "set") _) _ _ _
  refine wpAny_pure ⟨Code.quiet_builtin _ (by decide +kernel), codeAny_builtin PySem.F.entry_type_call ?_⟩
  rw [Around.under_plain (weight_type_call_type "set" [.ref l] []) rfl]
  repeat (any_goals (first | assumption | wp_step))
  refine codeAny_mono (code_set_new_1 (.ref l) (E := E) (Q₁ := fun obj s₁ => ∃ led, obj = .ref s.heap.objs.size ∧ s₁ = { s with heap := s.heap.push (bare led) }) fun led => ⟨led, rfl, rfl⟩) fun r s₁ hr => ?_
  rcases r with e | fl
  · exact hr
  cases fl with
  | ret obj =>
    obtain ⟨led, rfl, rfl⟩ := hr
    have hS : (s.heap.push (bare led)).get? s.heap.objs.size = some (bare led) := Heap.get?_push_size _ rfl
    have hT : Shared.TypeIs { s with heap := s.heap.push (bare led) } (.ref s.heap.objs.size) "set" := ⟨_, hS, rfl⟩
    have hli := PySem.F.called_set.init.lookup
    have hbi := PySem.F.called_set.init.bind (.ref s.heap.objs.size)
    repeat (any_goals (first | assumption | wp_step))
    refine codeAny_mono (codeAny_call_builtin (R := wants (fun r s₂ => r = .none ∧ ∃ h' tk, s₂ = { s with heap := h', toks := tk } ∧ At prog w xs s.heap.objs.size xs.length h' ∧ (∀ b o, b < s.heap.objs.size → s.heap.get? b = some o → h'.get? b = some o)) E)
      PySem.F.called_set.init.plain PySem.F.entry_set_init (check_set_init_1 hT ?_)) fun r₂ s₂ hr₂ => ?_
    · obtain ⟨⟨ocls, odict, odata, oslots⟩, hol, hcl, nl, hdl⟩ := hl
      simp only at hcl hdl
      subst hcl; subst hdl
      have hlS : l < s.heap.objs.size := Heap.lt_size hol
      have hol' := Heap.get?_push_of_some (bare led) hol
      have hl1 : (s.heap.push (bare led)).IsList l items := ⟨_, hol', rfl, nl, rfl⟩
      have hsls := PySem.F.sub_list_set
      have hslf := PySem.F.sub_list_frozenset
      have hne : (Value.type "list" == Value.type "dict") = false := by decide
      unfold Builtin.«set.__init__» noKeywords Builtin.Frozenset.updateFrom
      generalize hPI : pyIter = PI
      wp_walk
      subst hPI
      refine wpAny_pyIter_list hl1 (wpAny_bind (wpAny_runValue ?_))
      have sz : (s.heap.push (bare led)).objs.size = s.heap.objs.size + 1 := Heap.size_push ..
      have calm3 : A.in1.in1.in1.handled = none := by simp [calm]
      have hval : ∀ (i : Nat) (v : Value), items[i]? = some v → ∃ t, v = .str (xs.getD i Str.empty) t := fun i v hv => SS.strs_at hi i v (by rw [Array.getElem?_toList]; exact hv)
      refine loopV (n := items.size) ((Walks.list calm3 _ l (by rw [sz]; exact Nat.ne_of_lt (Nat.lt_succ_of_lt hlS)) items).toS) s.heap.objs.size (by rw [sz]; simp only [List.mem_cons, List.not_mem_nil, or_false, not_or]; exact ⟨Nat.ne_of_lt (Nat.lt_succ_self _), Nat.ne_of_gt hlS⟩) xs len (by omega) hval items.size 0 _ (by omega)
        ⟨⟨_, Heap.get?_push_size _ rfl, rfl, rfl⟩, (hl1.push _)⟩ ?zS ?zR
      case zS =>
        have hget := Heap.get?_push_of_some ({ cls := .type "list_iterator", data := .fields #[.ref l, .int 0 0] } : Obj) hS
        exact PyProof.Rows.SetOf_congr ((PyProof.Rows.setObjOf_fresh (knd := PySem.strKind prog w) led).setOf hget (by unfold scanBound; omega)) (fun _ => rfl) rfl
      case zR =>
        intro s' mv hS'
        obtain ⟨h', g', d', tk', os'⟩ := s'
        cases (show g' = s.gens from mv.gens)
        cases (show d' = s.drawn from mv.drawn)
        cases (show os' = s.os from mv.os)
        refine wpAny_pure (wpAny_pure ⟨rfl, h', tk', rfl, by rw [len]; exact hS', fun b o hb e => ?_⟩)
        exact mv.heap b o (by rw [sz]; simp only [List.mem_cons, List.not_mem_nil, or_false, not_or]; exact ⟨Nat.ne_of_lt hb, Nat.ne_of_lt (Nat.lt_succ_of_lt hb)⟩) (Heap.get?_push_of_some _ (Heap.get?_push_of_some _ e))
    · rcases r₂ with e | fl₂
      · exact hr₂
      cases fl₂ with
      | ret r =>
        obtain ⟨rfl, h', tk, rfl, hS', hk'⟩ := hr₂
        repeat (any_goals (first | assumption | wp_step))
        exact h _ _ hS' hk'
      | _ => exact hr₂.elim
  | _ => exact hr.elim
end
section
open L2
/-- len(set(xs)), xs a list of texts -/
def tLenSetS (K : PySem.W.Frag) (ta : TE) : TE := fun σ H Q => ta σ H fun x H1 => ∃ (l : Addr) (xs : List Str), x = .ref l ∧ SqL K H1 l (xs.map V.str) ∧ xs.length ≤ 1000 ∧ Q (.int (uq xs xs.length : Nat)) H1
theorem pe_lenSetS {X : Cx} {a : Expr} {ta : TE} {p p2 q pos : Pos} (hg : Gl X "len") (hm : X.mg "len" = none) (hg2 : Gl X "set") (hm2 : X.mg "set" = none) (ha : PE X a ta) (hc : X.calm = true := by rfl)
    (na : starEach [a] X.env = (false, eval a X.env) :: starEach [] X.env := by rfl) : PE X (.Call (.Name "len" p) [.Call (.Name "set" p2) [a] [] q] [] pos) (tLenSetS X.K ta) := by
  refine ⟨fun pins s σ H Q I h => ?_⟩
  refine Call_ (ld_blt I hg hm boot_len (PyProof.Rows.callWith_builtin1 (PyProof.Rows.args_cons ?_ rfl) rfl rfl))
  refine Call_ (ld_blt I hg2 hm2 boot_set (PyProof.Rows.callWith_type1 (PyProof.Rows.args_cons (thn (ha.run pins s σ H _ I h) fun v s1 ⟨x, H1, I1, r1, q1⟩ => PyProof.Rows.args_nil ?_) na) na rfl))
  obtain ⟨l, xs, rfl, hq, hl, q1⟩ := q1
  cases r1
  obtain ⟨its, r, pl, _⟩ := I1.list hq
  refine set_texts (I1.ok.hd hc) pl.isList (by simpa using strsAre_of r) (by unfold scanBound; omega) fun h' tk hS hk => PyProof.Rows.args_nil ?_
  obtain ⟨o, es, ep, t, ho, hex, hd, _, _, _, hf, hn⟩ := hS
  have I2 : Inv X pins σ H1 { s1 with heap := h', toks := tk } := I1.kept fun b o e => hk b o (Heap.lt_size e) e
  have hu := uq_le xs xs.length
  exact call_len_set ho hex hd hf (by rw [hn] <;> omega) ⟨.int (uq xs xs.length), H1, I2.tok _, ⟨_, by rw [hn]⟩, q1⟩
end
end HV
/-! Base.__init__(self, ..): an own class over ValueError that has no __init__ of its own -/
namespace HY
open PySem PySem.Spec PyProof.Rows L2
/-- what the written part says of the base -/
structure BaseI (K : PySem.W.Frag) (Y : Addr) : Prop where
  ga : PySem.W.specialIn K (.ref Y) "__getattribute__" = some (some (.builtin "type.__getattribute__"))
  ty : PySem.W.typeIn K (.ref Y) = some (.type "type")
  rd : PySem.W.readsIn K Y (.type "type") = true
  it : PySem.W.findCls K (.ref Y) (.type "type") "__init__" = some (.val (.builtin "ValueError.__init__"))
section
variable {X : Cx} {e : Expr} {es : List Expr} {ta : TA} {x : Str} {Y : Addr} {p1 p2 pos : Pos}
theorem pe_baseinit {pl : Sem Bool} (B : BaseI X.K Y) (hg : Gl X x) (hm : X.mg x = some (.ref Y)) (ha : PA X (e :: es) ta) (hdb : (x == ("__debug__" : Str)) = false := by decide)
    (hc : eval (.Call (.Attribute (.Name x p1) "__init__" p2) (e :: es) [] pos) X.env = (do
      let ov ← eval (.Name x p1) X.env
      standAt p2.atName
      let (f, first) ← holding [ov] (getMethod ov "__init__" pl)
      callWith pos f first (backTo pos (starEach (e :: es) X.env)) (backToKw pos (keywordEach [] X.env))) := by rfl)
    (he : starEach (e :: es) X.env = (false, eval e X.env) :: starEach es X.env := by rfl) (hpl : (backTo pos (starEach es X.env)).any (·.1) = false := by rfl) :
    PE X (.Call (.Attribute (.Name x p1) "__init__" p2) (e :: es) [] pos) (tVeI X.K ta) := by
  refine ⟨fun pins s σ H Q I h => ?_⟩
  refine PySem.W.methodCall_KW (ld_glob I hg hm ?_ hdb) hc
  obtain ⟨m, fr⟩ := I.fr
  refine PySem.W.method_of_cls fr I.ok.mod.kin B.ga (PySem.W.cls_val fr I.ok.mod.kin B.ty B.rd B.it (by decide +kernel) ?_)
  show wpAny _ _ (callWith pos (Value.builtin "ValueError.__init__") [] (backTo pos (starEach (e :: es) X.env)) []) _ _ _
  refine PyProof.Rows.callWith_method1 (thn (ha.run pos pins _ σ H _ (I.tok _) h) fun us s1 ⟨vs, H1, I1, r1, a, C, ws, ev, hl, T, ea, q⟩ => ?_) he hpl
  subst ev
  cases r1 with
  | @cons _ u0 _ ur ra rw' =>
    obtain rfl : u0 = Value.ref a := ra
    have hlen : ur.length ≤ sizeLine := by
      rw [← Paired.length rw', sizeLine_eq]
      omega
    exact oinit_ok T I1 ea hlen fun s' J => ⟨.non, H1, J, rfl, q⟩
end
end HY
/-! own exception classes told by the head; raise C(e); C(e, k = v) that may raise in a try -/
namespace HQ
open PySem PySem.Spec PySem.Calls PyProof.Rows L2 He
/-! ### what the head tells of such a class -/
def exB1 (K : PySem.W.Frag) (C : Addr) : Bool := match K.lookup C with
  | some ⟨.type t, _, .cls cd, sl⟩ => (match cd.mro, sl.toList with
    | .ref D :: bm, [_, _, _, _, some (.builtin n), _] => decide (t = "type") && (decide (D = C) && (decide (n = "ValueError.__new__") && (!cd.hasDel && (cd.hasDict && PySem.HandSPX.refsVE bm))))
    | _, _ => false)
  | _ => false
def exB (K : PySem.W.Frag) (C : Addr) : Bool := exB1 K C && (decide (PySem.W.findIn K (.ref C) "__setattr__" = some (some (.builtin "object.__setattr__"))) &&
  (decide (PySem.W.subIn K (.ref C) (.type "BaseException") = some true) && (decide (PySem.W.typeIn K (.ref C) = some (.type "type")) && (PySem.W.keepIn K (.ref C) && xfB K C))))
theorem exB1_ok {K : PySem.W.Frag} {C : Addr} (h : exB1 K C = true) : ∃ nm q N bs bm sn sub ab col dd k0 k1 k2 k3 k5, K.lookup C = some (excClassObj nm q C N bs bm true sn sub ab col dd k0 k1 k2 k3 k5 "ValueError.__new__") ∧ PySem.HandSPX.refsVE bm = true := by
  unfold exB1 at h
  split at h
  · rename_i t dd cd sl ho
    split at h
    · rename_i D bm k0 k1 k2 k3 n k5 hm hs
      obtain ⟨e1, h⟩ := ba h
      obtain ⟨e2, h⟩ := ba h
      obtain ⟨e3, h⟩ := ba h
      obtain ⟨e4, h⟩ := ba h
      obtain ⟨e5, e6⟩ := ba h
      have e1 := of_decide_eq_true e1
      have e2 := of_decide_eq_true e2
      have e3 := of_decide_eq_true e3
      obtain ⟨nm, bs, mro, ns, qn, hd, sn, sub, ab, col, del⟩ := cd
      dsimp only at hm e4 e5
      subst hm e1 e2 e3 e5
      have e4 : del = false := by cases del <;> first | rfl | cases e4
      subst e4
      have hsl : sl = #[k0, k1, k2, k3, some (.builtin "ValueError.__new__"), k5] := by
        obtain ⟨l⟩ := sl
        simp only at hs
        rw [hs]
      subst hsl
      exact ⟨nm, qn, ns, bs, bm, sn, sub, ab, col, dd, k0, k1, k2, k3, k5, ho, e6⟩
    · cases h
  · cases h
theorem exB_ok {K : PySem.W.Frag} {C : Addr} (h : exB K C = true) : OexC K C ∧ XfC K C := by
  obtain ⟨h1, h⟩ := ba h
  obtain ⟨h2, h⟩ := ba h
  obtain ⟨h3, h⟩ := ba h
  obtain ⟨h4, h⟩ := ba h
  obtain ⟨h5, h6⟩ := ba h
  exact ⟨⟨exB1_ok h1, of_decide_eq_true h2, of_decide_eq_true h3, of_decide_eq_true h4, h5⟩, xfB_ok h6⟩
def inB (K : PySem.W.Frag) (C : Addr) : Bool := decide (PySem.W.findIn K (.ref C) "__init__" = some (some (.ref (ma K C "__init__")))) && decide (PySem.W.typeIn K (.ref (ma K C "__init__")) = some (.type "function"))
theorem inB_ok {K : PySem.W.Frag} {C : Addr} (h : inB K C = true) : PySem.W.findIn K (.ref C) "__init__" = some (some (.ref (ma K C "__init__"))) ∧ PySem.W.typeIn K (.ref (ma K C "__init__")) = some (.type "function") := by
  obtain ⟨h1, h2⟩ := ba h
  exact ⟨of_decide_eq_true h1, of_decide_eq_true h2⟩
/-- the base whose __init__ is ValueError's -/
def bsB (K : PySem.W.Frag) (Y : Addr) : Bool := decide (PySem.W.specialIn K (.ref Y) "__getattribute__" = some (some (.builtin "type.__getattribute__"))) && (decide (PySem.W.typeIn K (.ref Y) = some (.type "type")) &&
  (PySem.W.readsIn K Y (.type "type") && (match PySem.W.findCls K (.ref Y) (.type "type") "__init__" with
    | some (.val (.builtin n)) => decide (n = "ValueError.__init__")
    | _ => false)))
theorem bsB_ok {K : PySem.W.Frag} {Y : Addr} (h : bsB K Y = true) : HY.BaseI K Y := by
  obtain ⟨h1, h⟩ := ba h
  obtain ⟨h2, h⟩ := ba h
  obtain ⟨h3, h4⟩ := ba h
  refine ⟨of_decide_eq_true h1, of_decide_eq_true h2, h3, ?_⟩
  cases e : PySem.W.findCls K (.ref Y) (.type "type") "__init__" with
  | none => rw [e] at h4; cases h4
  | some r =>
    rw [e] at h4
    cases r with
    | val u =>
      cases u with
      | builtin n =>
        have e2 : n = "ValueError.__init__" := of_decide_eq_true h4
        rw [e2]
      | _ => cases h4
    | _ => cases h4
/-! ### raise C(e) -/
/-- __init__(self, y): self.f = y, and no more -/
def spEx (C : Addr) (f : Str) : Sp := fun vs H Q _ => ∃ (a : Addr) (y : V), vs = [.ref a, y] ∧ H a = some (exo a C none) ∧ ∀ d, H d = none → d ≠ a → Q .non (upd (upd H d (exd d [(f, y)])) a (exo a C (some d)))
/-- behind the making: the new error's own dict -/
theorem mkO_of {C : Addr} {f : Str} {y : V} {H : Hp} {Q : XK} (h : ∀ d, H d = none → Q (.ref C) (some d) (upd H d (.xd [(f, y)]))) :
    [y].length ≤ 1000 ∧ ∀ a, H a = none → spEx C f (.ref a :: ([y] ++ [])) (upd H a (exo a C none)) (fun v H2 => v = .non ∧ ∃ (d : Addr) (fs : List (Str × V)), H2 a = some (exo a C (some d)) ∧ H2 d = some (exd d fs) ∧ H d = none ∧ Q (.ref C) (some d) (upd (del H2 a) d (.xd fs))) (fun _ _ _ => False) := by
  refine ⟨by show 1 ≤ 1000; decide, fun a na => ⟨a, y, rfl, upd_same, fun d nd hda => ⟨rfl, d, [(f, y)], upd_same, by rw [upd_ne hda, upd_same], by rwa [upd_ne hda] at nd, ?_⟩⟩⟩
  have nd' : H d = none := by rwa [upd_ne hda] at nd
  have e : upd (del (upd (upd (upd H a (exo a C none)) d (exd d [(f, y)])) a (exo a C (some d))) a) d (.xd [(f, y)]) = upd H d (.xd [(f, y)]) := by
    funext b
    by_cases hb : b = d
    · subst hb; rw [upd_same, upd_same]
    · rw [upd_ne hb, upd_ne hb]
      by_cases hba : b = a
      · subst hba; rw [del_same, na]
      · rw [del_ne hba, upd_ne hba, upd_ne hb, upd_ne hba]
  rw [e]
  exact h d nd'
/-! ### C(e, .., k = v, ..) that may raise, within a try: the wish knows the slots -/
def tMakeS (C : Addr) (n m : Nat) (sp : Sp) (gV : List V → List V → List V) (W : WX) (t tk : TA) : TE := fun σ H Q => t σ H fun vs H1 => tk σ H1 fun zs H2 => vs.length = n ∧ zs.length = m ∧
  ∀ x dx, H2 x = none → H2 dx = none → dx ≠ x → sp (gV (.ref x :: vs) zs) (upd (upd H2 dx (.own x)) x (.ins C dx [])) (fun v H3 => v = .non ∧ Q (.ref x) H3) (WE W σ)
section
variable {X : Cx} {k n : Nat} {f C : Addr} {fd : FuncData} {ps ks : List Str} {sp : Sp} {W : WX} {x : Str} {p pos : Pos} {e : Expr} {es : List Expr} {kws : List Keyword} {t tk : TA} {g : List Value → List Value → List Value} {gV : List V → List V → List V}
theorem pe_makeS (M : Mk X.K C f) (F : FnOk X.prog X.w X.K X.mg X.base (L2.CX X.prog X.w) k f fd ps sp) (hr : Room (k + 1) X.A) (hg : Gl X x) (hm : X.mg x = some (.ref C)) (hb : KBn X.K fd ps (n + 1) ks g gV) (hx : Takes X W)
    (ha : PA X (e :: es) t) (hkw : PK X kws tk) (hall : (backToKw pos (keywordEach kws X.env)).all (·.1.isSome) = true := by rfl) (hks : (backToKw pos (keywordEach kws X.env)).filterMap (·.1) = ks := by rfl)
    (hdb : (x == ("__debug__" : Str)) = false := by decide) (he : starEach (e :: es) X.env = (false, eval e X.env) :: starEach es X.env := by rfl)
    (hpl : ((backTo pos (starEach (e :: es) X.env)).any (·.1) || (backToKw pos (keywordEach kws X.env)).any (·.1.isNone)) = false := by rfl) : PE X (.Call (.Name x p) (e :: es) kws pos) (tMakeS C n ks.length sp gV W t tk) := by
  constructor
  intro pins s σ H Q I h
  apply wpAny_Call_Name_kw
  apply ld_glob I hg hm _ hdb
  apply PySem.W.callWith_KW (h₀ := X.base) I.ok.mod.kin M.kp hall _ hpl he
  refine thn (ha.run pos pins s σ H _ I h) fun us s1 hh => ?_
  obtain ⟨vs, H1, I1, r, q⟩ := hh
  refine thn (hkw.run pos pins s1 σ H1 _ I1 q) fun ws s2 hh => ?_
  obtain ⟨zs, H2, I2, rz, l1, l2, q2⟩ := hh
  refine ⟨I2.kIn, ?_⟩
  rw [hks]
  have hq := q2 (s2.heap.objs.size + 1) s2.heap.objs.size (I2.hok.fresh (Nat.le_succ _)) (I2.hok.fresh (Nat.le_refl _)) (Nat.ne_of_lt (Nat.lt_succ_self _))
  have J := Inv.made (C := C) I2
  have n1 : (Value.ref (s2.heap.objs.size + 1) :: us).length = n + 1 := by rw [List.length_cons, ← r.length, l1]
  have r1 : Vals (V.ref (s2.heap.objs.size + 1) :: vs) (Value.ref (s2.heap.objs.size + 1) :: us) := .cons rfl r
  have rr := hb.rel r1 rz
  have bnd := hb.to _ (Value.ref (s2.heap.objs.size + 1) :: us) ws J.kIn n1 (rz.length.symm.trans l2)
  have one := F.run _ X.stack _ _ ⟨Value.ref (s2.heap.objs.size + 1) :: us, ks.zip ws⟩ _ _ _ _ (hr.make C us (ks.zip ws)) (J.env0.make C us (ks.zip ws)) bnd rr hq
  refine wpAny_call (make_map (f := f) I2.kIn M.makes M.init (beq_iff_eq.mp M.fn) (codeAny_mono one fun r s' z => ?_))
  match r, z with
  | .error u, z => exact passAt hx σ pins _ _ u s' J z
  | .ok (.ret u), z =>
    obtain ⟨v, H', J2, rv, ev, q3⟩ := J.after z
    subst ev
    exact ⟨rv, .ref (s2.heap.objs.size + 1), H', J2, rfl, q3⟩
end
end HQ
/-! displays of data in one step: tuples of tuples of texts, numbers and names' values -/
namespace HK
open PySem PySem.Spec PyProof.Rows L2 HB
section
variable {K : PySem.W.Frag} {σ : L2.St} {H0 : Hp}
/-- the expression gives this data, and what stood stands -/
def MkE (K : PySem.W.Frag) (σ : L2.St) (H0 : Hp) (t : TE) (d : PyData) : Prop := ∀ (H : Hp) (Q : VK), Same H0 H → (∀ v H', Same H H' → Dp K H' v d → Q v H') → t σ H Q
def MkA (K : PySem.W.Frag) (σ : L2.St) (H0 : Hp) (t : TA) (ds : List PyData) : Prop := ∀ (H : Hp) (Q : List V → Hp → Prop), Same H0 H → (∀ vs H', Same H H' → DpAll K H' vs ds → Q vs H') → t σ H Q
theorem mk_int {i : Int} : MkE K σ H0 (tC (.int i)) (.int i) := fun H Q _ q => q _ H (Same.refl H) (.int i)
theorem mk_str {z : Str} : MkE K σ H0 (tC (.str z)) (.str z) := fun H Q _ q => q _ H (Same.refl H) (.str z)
theorem mk_non : MkE K σ H0 (tC .non) .none := fun H Q _ q => q _ H (Same.refl H) .non
theorem mk_bl {b : Bool} : MkE K σ H0 (tC (.bl b)) (.bool b) := fun H Q _ q => q _ H (Same.refl H) (.bl b)
theorem mk_var {i : Nat} {v : V} {d : PyData} (h : σ[i]? = some (some v)) (hd : Dp K H0 v d) : MkE K σ H0 (tVar i) d := fun H Q s q => ⟨v, h, q _ H (Same.refl H) (s.dp hd)⟩
theorem mk_nil : MkA K σ H0 tNil [] := fun H Q _ q => q [] H (Same.refl H) .nil
theorem mk_cons {t : TE} {ta : TA} {d : PyData} {ds : List PyData} (h : MkE K σ H0 t d) (ha : MkA K σ H0 ta ds) : MkA K σ H0 (tCons t ta) (d :: ds) := fun H Q s q =>
  h H _ s fun v H1 s1 hv => ha H1 _ (s.trans s1) fun vs H2 s2 hvs => q (v :: vs) H2 (s1.trans s2) (.cons (s2.dp hv) hvs)
theorem mk_tup {ta : TA} {ds : List PyData} (h : MkA K σ H0 ta ds) (hz : ds.length ≤ 1000 := by simp) : MkE K σ H0 (tTup ta) (.tuple ds) := fun H Q s q =>
  h H _ s fun vs H1 s1 hvs => ⟨by rw [HX.dpAll_len hvs]; exact Nat.le_of_lt (small1000 hz), fun p np => q (.ref p) _ (s1.trans (same_upd np)) (.tup (stt upd_same) ((same_upd np).dpAll hvs))⟩
theorem mk_of {t : TE} {d : PyData} (h : ∀ (H : Hp) (Q : VK), Same H0 H → (∀ v H', Same H H' → Dp K H' v d → Q v H') → t σ H Q) : MkE K σ H0 t d := h
/-! ### where a statement's value is a display -/
theorem seq_set {t : TE} {g : TG} {u : TS} {D : Ends} {σ : L2.St} {H : Hp} (h : t σ H fun v H1 => g v σ H1 (u D)) : tSeq (tAsg t g) u D σ H := h
theorem nm_ {i : Nat} {v : V} {σ : L2.St} {H : Hp} {nx : L2.St → Hp → Prop} {rt : VK} {bk ct : L2.St → Hp → Prop} (h : nx (σ.set i (some v)) H) : gName i v σ H (Ends.mk nx rt bk ct).nx := h
theorem nx_ {σ : L2.St} {H : Hp} {nx : L2.St → Hp → Prop} {rt : VK} {bk ct : L2.St → Hp → Prop} (h : nx σ H) : (Ends.mk nx rt bk ct).nx σ H := h
theorem nm1 {i : Nat} {v : V} {σ : L2.St} {H : Hp} {Q : L2.St → Hp → Prop} (h : Q (σ.set i (some v)) H) : gName i v σ H Q := h
/-- behind a name's store: the next statement sets a name too -/
theorem nm_set {i : Nat} {v : V} {σ : L2.St} {H : Hp} {t : TE} {g : TG} {u : TS} {D : Ends} {rt : VK} {bk ct : L2.St → Hp → Prop} (h : t (σ.set i (some v)) H fun y H1 => g y (σ.set i (some v)) H1 (u D)) : gName i v σ H (Ends.mk (tSeq (tAsg t g) u D) rt bk ct).nx := h
theorem one_set {t : TE} {g : TG} {D : Ends} {σ : L2.St} {H : Hp} (h : t σ H fun v H1 => g v σ H1 D.nx) : tAsg t g D σ H := h
theorem one_ret {t : TE} {D : Ends} {σ : L2.St} {H : Hp} (h : t σ H D.rt) : tRet t D σ H := h
theorem op_ {r : R2} {ta tb : TE} {σ : L2.St} {H : Hp} {Q : VK} (h : ta σ H fun x H1 => tb σ H1 fun y H2 => r x y H2 Q) : tOp r ta tb σ H Q := h
theorem cons_ {t : TE} {ta : TA} {σ : L2.St} {H : Hp} {Q : List V → Hp → Prop} (h : t σ H fun x H1 => ta σ H1 fun xs H2 => Q (x :: xs) H2) : tCons t ta σ H Q := h
theorem run_tup {H : Hp} {Q : VK} {ta : TA} {ds : List PyData} (h : MkA K σ H ta ds) (q : ∀ p H', H p = none → Same H H' → Dp K H' (.ref p) (.tuple ds) → Q (.ref p) H') (hz : ds.length ≤ 1000 := by simp) : tTup ta σ H Q :=
  h H _ (Same.refl H) fun vs H1 s1 hvs => ⟨by rw [HX.dpAll_len hvs]; exact Nat.le_of_lt (small1000 hz), fun p np => q p _ (s1.free np) (s1.trans (same_upd np)) (.tup (stt upd_same) ((same_upd np).dpAll hvs))⟩
theorem run_lst {H : Hp} {Q : VK} {ta : TA} {ds : List PyData} (h : MkA K σ H ta ds) (q : ∀ p H' vs, H p = none → Same H H' → H' p = some (.lst vs) → DpAll K H' vs ds → Q (.ref p) H') (hz : ds.length ≤ 1000 := by simp) : tLst ta σ H Q :=
  h H _ (Same.refl H) fun vs H1 s1 hvs => ⟨by rw [HX.dpAll_len hvs]; exact Nat.le_of_lt (small1000 hz), fun p np => q p _ vs (s1.free np) (s1.trans (same_upd np)) upd_same ((same_upd np).dpAll hvs)⟩
theorem dpAll_app {H : Hp} : ∀ {xs ys : List V} {ds es : List PyData}, DpAll K H xs ds → DpAll K H ys es → DpAll K H (xs ++ ys) (ds ++ es)
  | _, _, _, _, .nil, k => k
  | _, _, _, _, .cons h t, k => .cons h (dpAll_app t k)
/-- the comprehension has no test -/
theorem yes_ {σ : L2.St} {H : Hp} {A B : Hp → Prop} (h : A H) : tYes σ H (fun b H1 => if b = true then A H1 else B H1) := by
  show if true = true then A H else B H
  rw [if_pos rfl]
  exact h
/-! ### data of tuples alone -/
mutual
def tupD : PyData → Bool
  | .list _ => false
  | .dict _ => false
  | .tuple xs => tupAll xs
  | _ => true
def tupAll : List PyData → Bool
  | [] => true
  | x :: xs => tupD x && tupAll xs
end
mutual
theorem dp_keep {H H' : Hp} (k : ∀ (a : Addr) (xs : List V), SqT K H a xs → SqT K H' a xs) : ∀ {v : V} {x : PyData}, tupD x = true → Dp K H v x → Dp K H' v x
  | _, _, _, .non => .non
  | _, _, _, .bl b => .bl b
  | _, _, _, .int i => .int i
  | _, _, _, .str x => .str x
  | _, _, t, .lst h j => by cases t
  | _, _, t, .tup h j => .tup (k _ _ h) (dpAll_keep k t j)
theorem dpAll_keep {H H' : Hp} (k : ∀ (a : Addr) (xs : List V), SqT K H a xs → SqT K H' a xs) : ∀ {vs : List V} {xs : List PyData}, tupAll xs = true → DpAll K H vs xs → DpAll K H' vs xs
  | _, _, _, .nil => .nil
  | _, _, t, .cons h j => by
    simp only [tupAll, Bool.and_eq_true] at t
    exact .cons (dp_keep k t.1 h) (dpAll_keep k t.2 j)
end
theorem sqt_setl {H : Hp} {t l : Addr} {xs ys zs : List V} (e : H l = some (.lst ys)) (h : SqT K H t xs) : SqT K (upd H l (.lst zs)) t xs := by
  rcases h with (h | ⟨o, h⟩) | h
  · exact .inl (.inl (by rw [upd_ne (fun q => by subst q; rw [e] at h; cases h)]; exact h))
  · exact .inl (.inr ⟨o, by rw [upd_ne (fun q => by subst q; rw [e] at h; cases h)]; exact h⟩)
  · exact .inr h
theorem sqt_setk {H : Hp} {t l : Addr} {xs : List V} {kvs : List (Key × V)} {o : HO} (e : H l = some (.dK kvs)) (h : SqT K H t xs) : SqT K (upd H l o) t xs := by
  rcases h with (h | ⟨o, h⟩) | h
  · exact .inl (.inl (by rw [upd_ne (fun q => by subst q; rw [e] at h; cases h)]; exact h))
  · exact .inl (.inr ⟨o, by rw [upd_ne (fun q => by subst q; rw [e] at h; cases h)]; exact h⟩)
  · exact .inr h
theorem tupAll_app : ∀ {xs ys : List PyData}, tupAll xs = true → tupAll ys = true → tupAll (xs ++ ys) = true
  | [], _, _, h => h
  | x :: xs, ys, h, k => by
    simp only [List.cons_append, tupAll, Bool.and_eq_true] at h ⊢
    exact ⟨h.1, tupAll_app h.2 k⟩
/-- t + u, tuples of data -/
theorem cat_dp {H : Hp} {Q : VK} {a b : Addr} {ds es : List PyData} (h1 : Dp K H (.ref a) (.tuple ds)) (h2 : Dp K H (.ref b) (.tuple es)) (l : ds.length + es.length ≤ sizeLine) (q : ∀ t H', Same H H' → Dp K H' (.ref t) (.tuple (ds ++ es)) → Q (.ref t) H') : HT2.rCatA K (.ref a) (.ref b) H Q := by
  cases h1 with
  | tup h1 k1 =>
    cases h2 with
    | tup h2 k2 =>
      refine ⟨a, b, _, _, rfl, rfl, h1, h2, by rw [HX.dpAll_len k1, HX.dpAll_len k2]; exact l, fun e => ?_, fun _ e => ?_, fun _ _ p np => ?_⟩
      · subst e
        cases k1
        exact q b H (Same.refl H) (.tup h2 k2)
      · subst e
        cases k2
        rw [List.append_nil] at q
        exact q a H (Same.refl H) (.tup h1 k1)
      · exact q p _ (same_upd np) (.tup (stt upd_same) ((same_upd np).dpAll (dpAll_app k1 k2)))
theorem dp_at' {H : Hp} : ∀ {xs : List V} {ds : List PyData}, DpAll K H xs ds → ∀ {i : Nat} {d : PyData}, ds[i]? = some d → ∃ v, xs[i]? = some v ∧ Dp K H v d
  | _, _, .cons h _, 0, _, e => ⟨_, rfl, by cases e; exact h⟩
  | _, _, .cons _ t, i + 1, _, e => dp_at' t (by simpa using e)
  | _, _, .nil, i, _, e => by simp at e
theorem seq_ {t u : TS} {D : Ends} {σ : L2.St} {H : Hp} (h : t { D with nx := u D } σ H) : tSeq t u D σ H := h
/-- for .. in [a display] -/
theorem for_lst {H : Hp} {ta : TA} {ds : List PyData} {g : TG} {tb : TS} {D : Ends} (h : MkA K σ H ta ds) (q : ∀ (a : Addr) (H1 : Hp) (vs : List V), H a = none → Same H H1 → H1 a = some (.lst vs) → DpAll K H1 vs ds →
    ∃ Pv : Nat → L2.St → Hp → Prop, Pv 0 σ H1 ∧ (∀ i σ' H', Pv i σ' H' → SqL K H' a vs) ∧ (∀ i x d σ' H', vs[i]? = some x → ds[i]? = some d → Dp K H1 x d → Pv i σ' H' → g x σ' H' fun σ2 H2 => tb { D with nx := Pv (i + 1), ct := Pv (i + 1), bk := D.nx } σ2 H2) ∧ ∀ σ' H', Pv vs.length σ' H' → D.nx σ' H')
    (hz : ds.length ≤ 1000 := by simp) : tFor (iList K (tLst ta)) g tb D σ H := by
  unfold tFor iList
  refine run_lst h (fun p H1 vs n s l dv => ?_) hz
  obtain ⟨Pv, h0, hl, hs, hd⟩ := q p H1 vs n s l dv
  refine ⟨p, rfl, ⟨_, sl l⟩, for_list (xs := vs) Pv h0 (fun i σ' H' _ hp => hl i σ' H' hp) (fun i x σ' H' hx hp => ?_) hd⟩
  have hi : i < ds.length := by
    have := (List.getElem?_eq_some_iff.mp hx).1
    rw [← HX.dpAll_len dv]
    exact this
  obtain ⟨x', e1, e2⟩ := dp_at' dv (List.getElem?_eq_getElem hi)
  rw [hx] at e1
  cases e1
  exact hs i x _ σ' H' hx (List.getElem?_eq_getElem hi) e2 hp
/-- an item of a list of data -/
theorem dp_at {H : Hp} : ∀ {xs : List V} {ds : List PyData}, DpAll K H xs ds → ∀ {i : Nat} {d : PyData}, ds[i]? = some d → ∃ v, xs[i]? = some v ∧ Dp K H v d
  | _, _, .cons h _, 0, _, e => ⟨_, rfl, by cases e; exact h⟩
  | _, _, .cons _ t, i + 1, _, e => dp_at t (by simpa using e)
  | _, _, .nil, i, _, e => by simp at e
end
/-! ### repr of any data -/
def rReprA (K : PySem.W.Frag) : List V → Hp → VK → Prop := fun vs H Q => ∃ (x : V) (d : PyData), vs = [x] ∧ Dp K H x d ∧ d.showable = true ∧ d.hasDict = false ∧ d.depth ≤ 60 ∧ d.shown.length ≤ sizeLine ∧ Q (.str d.shown) H
theorem call_reprA {X : Cx} (sh : HG.Shut X.A) (hu : X.A.units + 64 < cLine) : CallR X (.builtin "repr") (rReprA X.K) := by
  intro pins s σ H vs us Q I r h
  obtain ⟨x, d, rfl, hd, sw, nd, dep, len, q⟩ := h
  have hd0 := hd
  cases hd with
  | non =>
    obtain ⟨u, rfl, rx⟩ := vals1 r
    obtain rfl : u = Value.none := rx
    exact PySem.P.repr_of_none ⟨.str "None", H, I.tok _, ⟨_, rfl⟩, by rw [PyData.shown_none] at q; exact q⟩
  | bl b =>
    obtain ⟨u, rfl, rx⟩ := vals1 r
    obtain rfl : u = Value.bool b := rx
    exact PySem.P.repr_of_bool ⟨.str _, H, I.tok _, ⟨_, rfl⟩, by rw [PyData.shown_bool] at q; exact q⟩
  | int i =>
    obtain ⟨u, rfl, t, rfl⟩ := vals1 r
    have hz : i.natAbs.log2 < 1920 := of_decide_eq_true sw
    exact PySem.P.repr_of_int hz ⟨.str _, H, I.tok _, ⟨_, rfl⟩, by rw [PyData.shown_int] at q; exact q⟩
  | str z =>
    obtain ⟨u, rfl, t, rfl⟩ := vals1 r
    exact PySem.P.repr_of_str ⟨.str _, H, I.tok _, ⟨_, rfl⟩, by rw [PyData.shown_str] at q; exact q⟩ (by rw [PyData.shown_str] at len; exact len)
  | lst h1 h2 => exact HG.call_reprD sh hu pins s σ H _ us Q I r ⟨_, _, rfl, hd0, rfl, sw, nd, dep, len, q⟩
  | tup h1 h2 => exact HG.call_reprD sh hu pins s σ H _ us Q I r ⟨_, _, rfl, hd0, rfl, sw, nd, dep, len, q⟩
end HK
namespace T06
open PySem PySem.Spec PyProof.Rows L2 HX HB HG HU HH HD HS
def topS (i : Nat) : Stmt := PySem.Challenge.pw_nestyard_k06_rows_at_the_bounds.main.body.getD i (.Pass ⟨0, 0, 0, 0⟩)
abbrev s_isname : Stmt := topS 3
theorem sc_isname : FnScope ["thing", "sign"] ["thing"] (defScope s_isname) := ⟨rfl, rfl, rfl, by decide +kernel, rfl, by decide +kernel, by decide +kernel⟩

abbrev s_isnum : Stmt := topS 4
theorem sc_isnum : FnScope ["thing"] ["thing"] (defScope s_isnum) := ⟨rfl, rfl, rfl, by decide +kernel, rfl, by decide +kernel, by decide +kernel⟩

abbrev s_iscalc : Stmt := topS 5
theorem sc_iscalc : FnScope ["thing"] ["thing"] (defScope s_iscalc) := ⟨rfl, rfl, rfl, by decide +kernel, rfl, by decide +kernel, by decide +kernel⟩

abbrev s_bodies : Stmt := topS 11
theorem sc_bodies : FnScope ["row", "kind", "part"] ["row"] (defScope s_bodies) := ⟨rfl, rfl, rfl, by decide +kernel, rfl, by decide +kernel, by decide +kernel⟩

abbrev s_ispart : Stmt := topS 12
theorem sc_ispart : FnScope ["kind", "thing", "known", "around", "least", "most", "words", "name", "word"] ["kind", "thing", "known", "around"] (defScope s_ispart) := ⟨rfl, rfl, rfl, by decide +kernel, rfl, by decide +kernel, by decide +kernel⟩

abbrev s_isrow : Stmt := topS 13
theorem sc_isrow : FnScope ["row", "known", "around", "word", "parts", "kind", "part"] ["row", "known", "around"] (defScope s_isrow) := ⟨rfl, rfl, rfl, by decide +kernel, rfl, by decide +kernel, by decide +kernel⟩

abbrev s_around : Stmt := topS 14
theorem sc_around : FnScope ["row", "around", "name", "word"] ["row", "around"] (defScope s_around) := ⟨rfl, rfl, rfl, by decide +kernel, rfl, by decide +kernel, by decide +kernel⟩

abbrev s_wrong : Stmt := topS 15
theorem sc_wrong : FnScope ["body", "place", "known", "around", "oftens", "at", "row", "here", "more", "which", "inner", "found"] ["body", "place", "known", "around", "oftens"] (defScope s_wrong) := ⟨rfl, rfl, rfl, by decide +kernel, rfl, by decide +kernel, by decide +kernel⟩

abbrev s_first : Stmt := topS 16
theorem sc_first : FnScope ["body", "cells", "locks", "channels"] ["body", "cells", "locks", "channels"] (defScope s_first) := ⟨rfl, rfl, rfl, by decide +kernel, rfl, by decide +kernel, by decide +kernel⟩

abbrev s_places : Stmt := topS 17
theorem sc_places : FnScope ["body", "place", "found", "at", "row", "here", "which", "inner"] ["body", "place"] (defScope s_places) := ⟨rfl, rfl, rfl, by decide +kernel, rfl, by decide +kernel, by decide +kernel⟩

abbrev s_sizes : Stmt := topS 32
theorem sc_sizes : FnScope ["thing", "least", "most", "name", "size"] ["thing", "least", "most"] (defScope s_sizes) := ⟨rfl, rfl, rfl, by decide +kernel, rfl, by decide +kernel, by decide +kernel⟩

abbrev s_locks : Stmt := topS 33
theorem sc_locks : FnScope ["thing", "name"] ["thing"] (defScope s_locks) := ⟨rfl, rfl, rfl, by decide +kernel, rfl, by decide +kernel, by decide +kernel⟩

abbrev s_np : Stmt := inClass (topS 20) 0
theorem sc_np : FnScope ["self", "place"] ["self", "place"] (defScope s_np) := ⟨rfl, rfl, rfl, by decide +kernel, rfl, by decide +kernel, by decide +kernel⟩

abbrev s_prog : Stmt := inClass (topS 35) 0
theorem sc_prog : FnScope ["self", "body", "cells", "locks", "channels", "first", "keys", "widths", "wrong"] ["self", "body", "cells", "locks", "channels"] (defScope s_prog) := ⟨rfl, rfl, rfl, by decide +kernel, rfl, by decide +kernel, by decide +kernel⟩

abbrev s_begun : Stmt := topS 37
theorem sc_begun : FnScope ["_law_script", "_law_great", "_law_cell"] ["_law_script"] (defScope s_begun) := ⟨rfl, rfl, rfl, by decide +kernel, rfl, by decide +kernel, by decide +kernel⟩

abbrev s_next : Stmt := topS 38
theorem sc_next : FnScope ["_law_draw", "_law_size", "_law_number", "_law_turn", "_law_stock", "_law_made", "_law_prime"] ["_law_draw", "_law_size"] (defScope s_next) := ⟨rfl, rfl, rfl, by decide +kernel, rfl, by decide +kernel, by decide +kernel⟩

abbrev s_name : Stmt := topS 39
theorem sc_name : FnScope ["_law_draw", "_law_own", "_law_name_here", "_law_many", "_law_way", "_law_letters", "_law_k"] ["_law_draw"] (defScope s_name) := ⟨rfl, rfl, rfl, by decide +kernel, rfl, by decide +kernel, by decide +kernel⟩

abbrev s_within : Stmt := topS 40
theorem sc_within : FnScope ["_law_draw", "_law_row", "_law_many", "_law_name_here", "_law_place", "_law_k", "_law_way", "_law_nest", "_law_some"] ["_law_draw", "_law_row", "_law_many", "_law_name_here"] (defScope s_within) := ⟨rfl, rfl, rfl, by decide +kernel, rfl, by decide +kernel, by decide +kernel⟩

abbrev s_refused : Stmt := topS 41
theorem sc_refused : FnScope ["_law_rows", "_law_cells_told", "_law_locks_told", "_law_lanes_told", "_law_place", "e"] ["_law_rows", "_law_cells_told", "_law_locks_told", "_law_lanes_told"] (defScope s_refused) := ⟨rfl, rfl, rfl, by decide +kernel, rfl, by decide +kernel, by decide +kernel⟩

abbrev s_right : Stmt := topS 42
theorem sc_right : FnScope ["_law_rows", "_law_due"] ["_law_rows", "_law_due"] (defScope s_right) := ⟨rfl, rfl, rfl, by decide +kernel, rfl, by decide +kernel, by decide +kernel⟩

abbrev s_spread : Stmt := topS 43
theorem sc_spread : FnScope ["_law_draw", "_law_many", "_law_rows", "_law_left", "_law_inner", "_law_body", "_law_k"] ["_law_draw", "_law_many"] (defScope s_spread) := ⟨rfl, rfl, rfl, by decide +kernel, rfl, by decide +kernel, by decide +kernel⟩

abbrev s_heads : Stmt := topS 44
theorem sc_heads : FnScope ["_law_draw", "_law_word", "_law_names", "_law_low", "_law_high", "_law_kind", "_law_number", "_law_many", "_law_heads", "_law_due", "_law_some", "_law_k", "_law_name_here"] ["_law_draw", "_law_word"] (defScope s_heads) := ⟨rfl, rfl, rfl, by decide +kernel, rfl, by decide +kernel, by decide +kernel⟩

abbrev s_law : Stmt := topS 45
theorem sc_law : FnScope ["_law_script", "_law_draw", "_law_word", "_law_many", "_law_row", "_law_place", "_law_k", "_law_kind", "_law_low", "_law_high", "_law_number", "_law_longer", "_law_name_here", "_law_due", "_law_rows"] ["_law_script"] (defScope s_law) := ⟨rfl, rfl, rfl, by decide +kernel, rfl, by decide +kernel, by decide +kernel⟩

structure Tp (K : PySem.W.Frag) (w : World) (mg : Str → Option Value) where
  C_YardError : Addr
  gC_YardError : mg "YardError" = some (.ref C_YardError)
  bs_YardError : HY.BaseI K C_YardError
  C_NoProgram : Addr
  gC_NoProgram : mg "NoProgram" = some (.ref C_NoProgram)
  x_NoProgram : OexC K C_NoProgram
  xf_NoProgram : XfC K C_NoProgram
  ee_NoProgram : PySem.W.exmOne K (.ref C_NoProgram) (.ref C_NoProgram) = some true
  na_NoProgram_place : NoAttr K C_NoProgram "place"
  C_Program : Addr
  gC_Program : mg "Program" = some (.ref C_Program)
  cl_Program : Cls K C_Program
  na_Program_spots : NoAttr K C_Program "spots"
  na_Program_tree : NoAttr K C_Program "tree"
  na_Program_first : NoAttr K C_Program "first"
  na_Program_bolts : NoAttr K C_Program "bolts"
  na_Program_widths : NoAttr K C_Program "widths"
  f_isname : Addr
  fd_isname : FuncData
  D_isname : Df K mg "is_name" "is_name" s_isname ["thing"] f_isname fd_isname
  f_isnum : Addr
  fd_isnum : FuncData
  D_isnum : Df K mg "is_number" "is_number" s_isnum ["thing"] f_isnum fd_isnum
  f_iscalc : Addr
  fd_iscalc : FuncData
  D_iscalc : Df K mg "is_calc" "is_calc" s_iscalc ["thing"] f_iscalc fd_iscalc
  f_bodies : Addr
  fd_bodies : FuncData
  D_bodies : Df K mg "bodies_of" "bodies_of" s_bodies ["row"] f_bodies fd_bodies
  f_ispart : Addr
  fd_ispart : FuncData
  D_ispart : Df K mg "is_part" "is_part" s_ispart ["kind", "thing", "known", "around"] f_ispart fd_ispart
  f_isrow : Addr
  fd_isrow : FuncData
  D_isrow : Df K mg "is_row" "is_row" s_isrow ["row", "known", "around"] f_isrow fd_isrow
  f_around : Addr
  fd_around : FuncData
  D_around : Df K mg "around_in" "around_in" s_around ["row", "around"] f_around fd_around
  f_wrong : Addr
  fd_wrong : FuncData
  D_wrong : Df K mg "wrong_in" "wrong_in" s_wrong ["body", "place", "known", "around", "oftens"] f_wrong fd_wrong
  f_first : Addr
  fd_first : FuncData
  dv_first_cells : Addr
  dt_first_cells : ∀ H : Hp, SqT K H dv_first_cells []
  dv_first_locks : Addr
  dt_first_locks : ∀ H : Hp, SqT K H dv_first_locks []
  dv_first_channels : Addr
  dt_first_channels : ∀ H : Hp, SqT K H dv_first_channels []
  D_first : FunD K "first_wrong" "first_wrong" (defArgs s_first) (defBody s_first) (defScope s_first) [] [("cells", V.ref dv_first_cells), ("locks", V.ref dv_first_locks), ("channels", V.ref dv_first_channels)] f_first fd_first
  g_first : mg "first_wrong" = some (.ref f_first)
  f_places : Addr
  fd_places : FuncData
  D_places : Df K mg "places_in" "places_in" s_places ["body", "place"] f_places fd_places
  f_sizes : Addr
  fd_sizes : FuncData
  D_sizes : Df K mg "are_sizes" "are_sizes" s_sizes ["thing", "least", "most"] f_sizes fd_sizes
  f_locks : Addr
  fd_locks : FuncData
  D_locks : Df K mg "are_locks" "are_locks" s_locks ["thing"] f_locks fd_locks
  f_np : Addr
  fd_np : FuncData
  D_np : Fun K "__init__" "NoProgram.__init__" s_np f_np fd_np
  b_np : L2.Binds K fd_np ["self", "place"] []
  m_np : Meth K C_NoProgram "__init__" f_np
  i_NoProgram : PySem.W.findIn K (.ref C_NoProgram) "__init__" = some (some (.ref f_np))
  ti_NoProgram : PySem.W.typeIn K (.ref f_np) = some (.type "function")
  f_prog : Addr
  fd_prog : FuncData
  D_prog : FunD K "__init__" "Program.__init__" (defArgs s_prog) (defBody s_prog) (defScope s_prog) [] [("cells", V.non), ("locks", V.non), ("channels", V.non)] f_prog fd_prog
  m_prog : Meth K C_Program "__init__" f_prog
  mk_Program : Mk K C_Program f_prog
  f_begun : Addr
  fd_begun : FuncData
  D_begun : Df K mg "_law_begun" "_law_begun" s_begun ["_law_script"] f_begun fd_begun
  f_next : Addr
  fd_next : FuncData
  D_next : Df K mg "_law_next" "_law_next" s_next ["_law_draw", "_law_size"] f_next fd_next
  f_name : Addr
  fd_name : FuncData
  D_name : Df K mg "_law_name" "_law_name" s_name ["_law_draw"] f_name fd_name
  f_within : Addr
  fd_within : FuncData
  D_within : Df K mg "_law_within" "_law_within" s_within ["_law_draw", "_law_row", "_law_many", "_law_name_here"] f_within fd_within
  f_refused : Addr
  fd_refused : FuncData
  D_refused : Df K mg "_law_refused" "_law_refused" s_refused ["_law_rows", "_law_cells_told", "_law_locks_told", "_law_lanes_told"] f_refused fd_refused
  f_right : Addr
  fd_right : FuncData
  D_right : Df K mg "_law_right" "_law_right" s_right ["_law_rows", "_law_due"] f_right fd_right
  f_spread : Addr
  fd_spread : FuncData
  D_spread : Df K mg "_law_spread" "_law_spread" s_spread ["_law_draw", "_law_many"] f_spread fd_spread
  f_heads : Addr
  fd_heads : FuncData
  D_heads : Df K mg "_law_heads_right" "_law_heads_right" s_heads ["_law_draw", "_law_word"] f_heads fd_heads
  c_LETTERS : ∃ t : Tok, mg "LETTERS" = some (.str "abcdefghijklmnopqrstuvwxyz" t)
  a_KINDS : Addr
  c_KINDS : mg "KINDS" = some (.ref a_KINDS)
  t_KINDS : ∀ H : Hp, SqT K H a_KINDS [V.str "sum", V.str "minus", V.str "less"]
  a_PARTS : Addr
  c_PARTS : mg "PARTS" = some (.ref a_PARTS)
  d_PARTS : HH.DT K w a_PARTS [("put", [V.str "name", V.str "calc"]), ("read", [V.str "name", V.str "cell"]), ("write", [V.str "cell", V.str "calc"]), ("tell", [V.str "calc"]), ("send", [V.str "channel", V.str "calc"]), ("take", [V.str "name", V.str "channel"]), ("hold", [V.str "lock", V.str "body"]), ("rest", [V.str "rest"]), ("nest", [V.str "scope", V.str "body"]), ("within", [V.str "span", V.str "scope", V.str "body"]), ("start", [V.str "home", V.str "body"]), ("off", [V.str "entered"]), ("shield", [V.str "body"]), ("fail", [V.str "name"]), ("catch", [V.str "body", V.str "name", V.str "body"]), ("try", [V.str "body", V.str "body"]), ("if", [V.str "calc", V.str "body", V.str "body"]), ("often", [V.str "times", V.str "body"])]
  a_RANGES : Addr
  c_RANGES : mg "RANGES" = some (.ref a_RANGES)
  d_RANGES : HH.DT K w a_RANGES [("rest", [V.int 0, V.int 9]), ("span", [V.int 1, V.int 9]), ("times", [V.int 0, V.int 3])]
  c_MOST_DEEP : ∃ t : Tok, mg "MOST_DEEP" = some (.int (9) t)
  c_MOST_OFTEN : ∃ t : Tok, mg "MOST_OFTEN" = some (.int (2) t)
  c_LIMIT : ∃ t : Tok, mg "LIMIT" = some (.int (400) t)
  c_MOST : ∃ t : Tok, mg "MOST" = some (.int (3000) t)
  c_MOST_ROWS : ∃ t : Tok, mg "MOST_ROWS" = some (.int (60) t)
  c_MOST_NAMES : ∃ t : Tok, mg "MOST_NAMES" = some (.int (4) t)
  all : mg "all" = none
  bool : mg "bool" = none
  dict : mg "dict" = none
  enumerate : mg "enumerate" = none
  int : mg "int" = none
  isinstance : mg "isinstance" = none
  len : mg "len" = none
  list : mg "list" = none
  min : mg "min" = none
  range : mg "range" = none
  repr : mg "repr" = none
  set : mg "set" = none
  sorted : mg "sorted" = none
  str : mg "str" = none
  tuple : mg "tuple" = none
  zip : mg "zip" = none

/-! ### names and numbers, of any data -/
def isLow (c : Nat) : Bool := decide (97 ≤ c) && decide (c ≤ 122)
def isNameL (z : Str) : Bool := decide (1 ≤ z.length) && decide (z.length ≤ 6) && z.cps.toList.all isLow
def isNameD : PyData → Bool
  | .str z => isNameL z
  | _ => false
def isNumD : PyData → Bool
  | .int _ => true
  | _ => false
def isKindD : PyData → Bool
  | .str k => decide (k = "sum" ∨ k = "minus" ∨ k = "less")
  | _ => false
def isCalcD : PyData → Bool
  | .int _ => true
  | .str z => isNameL z
  | .tuple [k, a, b] => isKindD k && (isCalcD a && isCalcD b)
  | _ => false
theorem letters_mem (c : Nat) : decide (c ∈ ("abcdefghijklmnopqrstuvwxyz" : Str).cps.toList) = isLow c := by
  have e : ("abcdefghijklmnopqrstuvwxyz" : Str).cps.toList = (List.range 26).map (· + 97) := by decide +kernel
  rw [e]
  unfold isLow
  rw [← Bool.decide_and]
  congr 1
  simp only [List.mem_map, List.mem_range, eq_iff_iff]
  constructor
  · rintro ⟨j, hj, rfl⟩; omega
  · rintro ⟨h1, h2⟩; exact ⟨c - 97, by omega, by omega⟩
theorem kinds_in (s : Str) : inV (.str s) [.str "sum", .str "minus", .str "less"] = decide (s = "sum" ∨ s = "minus" ∨ s = "less") := by
  show (eqV (.str "sum") (.str s) || (eqV (.str "minus") (.str s) || (eqV (.str "less") (.str s) || false))) = _
  simp only [eqV, Bool.or_false, Bool.decide_or]
  have e : ∀ z : Str, (z == s) = decide (s = z) := fun z => by
    by_cases h : s = z
    · subst h; simp
    · rw [decide_eq_false h]; exact beq_eq_false_iff_ne.mpr (Ne.symm h)
  rw [e, e, e]
section
variable {P : Program} {w : World} {K : PySem.W.Frag} {mg : Str → Option Value} {base : Heap}
/-- of data: answers b, changes nothing -/
def spD (K : PySem.W.Frag) (f : PyData → Bool) : Sp := fun vs H Q _ => ∃ v d, vs = [v] ∧ Dp K H v d ∧ okD d = true ∧ ∀ H', Same H H' → Q (.bl (f d)) H'
theorem ok_isname (T : Tp K w mg) : FnOk P w K mg base CX0 1 T.f_isname T.fd_isname ["thing"] (spD K isNameD) := by
  refine T.D_isname.F.ok sc_isname (fun vs H Q E h => ?_) (fun cdv A outer s H vs Q E hr h => ?_)
  · obtain ⟨v, d, rfl, _⟩ := h
    rfl
  · obtain ⟨v, d, rfl, hd, hk, q⟩ := h
    refine ⟨_, (pss_cons (ps_if (PW.pt (pw_or (pt_not (pt_val (pe_callB call_isi (by rfl) T.isinstance (by decide +kernel) (pa_cons (pv 0) (pa_cons (pe_bltn (v := .ty "str") (by rfl) T.str (by decide +kernel) rfl) pa_nil))))) (pw_or1 (pt_not (pt_chain op_le op_le pe_int (pe_callB call_len_str (by rfl) T.len PySem.boot_len (pa_cons (pv 0) pa_nil)) pe_int)))))
  (pss_one (ps_ret pe_bl))
  pss_nil)
  (pss_one (ps_ret (pe_callB (cr_all rfl) (by rfl) T.all (by decide +kernel) (pa_cons (pe_lc (own := [("sign", 1)]) (g := gName 1) (by rfl) sc_isname.nd (pi_str (pv 0)) (blkOk_by (own := [("sign", 1)]) (N := ["thing", "sign"]) (sc := defScope s_isname) (by decide +kernel)) (fun _ _ _ _ _ => (pg_name (i := 1) sc_isname.nd rfl (.inl rfl))) (fun _ _ _ _ _ => pts_nil) (fun _ _ _ _ _ => (pe_cmpR op_in_sign (pv 1) (pe_gs (by rfl) T.c_LETTERS) rfl))) pa_nil))))), ?_⟩
    obtain ⟨ty, kin⟩ := dp_ty hd
    refine ⟨_, rfl, _, _, _, _, _, rfl, .ty "str", ty, kit_dat (by decide) kin, _, rfl, ?_⟩
    by_cases hs : kindD d = "str"
    · obtain ⟨z, rfl⟩ : ∃ z, d = .str z := by cases d <;> simp [kindD] at hs ⊢
      cases hd
      have hz : z.length ≤ 100000 := by simpa [okD] using hk
      refine ite0 (by rw [decide_eq_true hs]; rfl) ?_
      have q : ∀ H', Same H H' → Q (.bl (isNameL z)) H' := q
      refine ⟨_, rfl, _, rfl, Evl.sz_of hz, _, _, rfl, rfl, _, rfl, ?_⟩
      have fin : ∀ b : Bool, (decide (1 ≤ z.length) && decide (z.length ≤ 6)) = b → b = false → ∀ H', Same H H' → Q (.bl false) H' := fun b e eb H' s' => by
        have h2 := q H' s'
        unfold isNameL at h2
        rw [e, eb] at h2
        exact h2
      have len1 : (decide ((1 : Int) ≤ (z.length : Nat))) = decide (1 ≤ z.length) := decide_eq_decide.mpr (by omega)
      have len6 : (decide (((z.length : Nat) : Int) ≤ 6)) = decide (z.length ≤ 6) := decide_eq_decide.mpr (by omega)
      by_cases h1 : 1 ≤ z.length
      · refine ite1 (by rw [len1]; exact decide_eq_true h1) ⟨_, _, rfl, rfl, ?_⟩
        by_cases h6 : z.length ≤ 6
        · refine ⟨true, by show V.bl _ = _; rw [len6, decide_eq_true h6], ?_⟩
          refine ⟨_, rfl, _, rfl, fun D nD => lc_it walk_str (fun i H2 => Same H H2 ∧ H2 D = some (.lst ((z.cps.toList.take i).map fun c => V.bl (isLow c)))) ⟨same_upd nD, upd_same⟩ (fun _ _ _ _ => trivial) ?_ ?_⟩
          · rintro i x H2 H3 hi ⟨sm, hD⟩ ⟨rfl, c, hc, rfl⟩
            refine ⟨rfl, _, rfl, c, _, rfl, rfl, _, hD, ?_, sm.own nD, ?_⟩
            · rw [List.length_map, List.length_take, Array.length_toList]
              exact small1000 (Nat.le_trans (Nat.min_le_left _ _) (Nat.le_trans (Nat.le_of_lt hi) (Nat.le_trans h6 (by decide))))
            · rw [upd_same, letters_mem, List.take_add_one, List.map_append, Array.getElem?_toList, hc]
              rfl
          · rintro H2 ⟨sm, hD⟩
            rw [show z.cps.size = z.cps.toList.length by simp, List.take_length] at hD
            have e : (z.cps.toList.map fun c => V.bl (isLow c)) = (z.cps.toList.map isLow).map V.bl := by rw [List.map_map]; rfl
            rw [e] at hD
            refine ⟨D, _, rfl, sl hD, ?_⟩
            have h2 := q H2 sm
            unfold isNameL at h2
            rw [decide_eq_true h1, decide_eq_true h6] at h2
            rw [List.all_map]
            exact h2
        · refine ⟨false, by show V.bl _ = _; rw [len6, decide_eq_false h6], ?_⟩
          exact fin _ rfl (by rw [decide_eq_false h6, Bool.and_false]) H (Same.refl H)
      · refine ite0 (by rw [len1]; exact decide_eq_false h1) ⟨false, rfl, ?_⟩
        exact fin _ rfl (by rw [decide_eq_false h1, Bool.false_and]) H (Same.refl H)
    · refine ite1 (by rw [decide_eq_false hs]; rfl) ?_
      have : isNameD d = false := by cases d <;> first | rfl | exact absurd rfl hs
      have h2 := q H (Same.refl H)
      rw [this] at h2
      exact h2
theorem ok_isnum (T : Tp K w mg) : FnOk P w K mg base CX0 1 T.f_isnum T.fd_isnum ["thing"] (spD K isNumD) := by
  refine T.D_isnum.F.ok sc_isnum (fun vs H Q E h => ?_) (fun cdv A outer s H vs Q E hr h => ?_)
  · obtain ⟨v, d, rfl, _⟩ := h
    rfl
  · obtain ⟨v, d, rfl, hd, hk, q⟩ := h
    have q := q H (Same.refl H)
    refine ⟨_, (pss_one (ps_ret (pe_and (pe_callB call_isi (by rfl) T.isinstance (by decide +kernel) (pa_cons (pv 0) (pa_cons (pe_bltn (v := .ty "int") (by rfl) T.int (by decide +kernel) rfl) pa_nil))) (pe_one (pe_notT (pe_callB call_isi (by rfl) T.isinstance (by decide +kernel) (pa_cons (pv 0) (pa_cons (pe_bltn (v := .ty "bool") (by rfl) T.bool (by decide +kernel) rfl) pa_nil)))))))), ?_⟩
    obtain ⟨ty, kin⟩ := dp_ty hd
    refine ⟨_, rfl, _, _, _, _, _, rfl, .ty "int", ty, kit_datInt kin, _, rfl, ?_⟩
    by_cases hi : kindD d = "int"
    · refine ite1 (decide_eq_true (.inl hi)) ⟨_, rfl, _, _, _, _, _, rfl, .ty "bool", ty, kit_dat (by decide) kin, _, rfl, ?_⟩
      rw [show isNumD d = true by cases d <;> simp [kindD] at hi <;> rfl] at q
      rw [hi]
      exact q
    · by_cases hb : kindD d = "bool"
      · refine ite1 (decide_eq_true (.inr hb)) ⟨_, rfl, _, _, _, _, _, rfl, .ty "bool", ty, kit_dat (by decide) kin, _, rfl, ?_⟩
        rw [show isNumD d = false by cases d <;> first | rfl | exact absurd rfl hi] at q
        rw [hb]
        exact q
      · refine ite0 (decide_eq_false (fun h => h.elim hi hb)) ?_
        rw [show isNumD d = false by cases d <;> first | rfl | exact absurd rfl hi] at q
        exact q
/-- what an item of a tuple is -/
theorem dp_tup {K : PySem.W.Frag} {H : Hp} {v : V} {ds : List PyData} (h : Dp K H v (.tuple ds)) : ∃ (a : Addr) (xs : List V), v = .ref a ∧ SqT K H a xs ∧ DpAll K H xs ds := by
  cases h with
  | tup h1 h2 => exact ⟨_, _, rfl, h1, h2⟩
/-- is_calc: depth n at most -/
def spCalc (K : PySem.W.Frag) (n : Nat) : Sp := fun vs H Q _ => ∃ v d, vs = [v] ∧ Dp K H v d ∧ okD d = true ∧ d.depth ≤ n ∧ ∀ H', Same H H' → Q (.bl (isCalcD d)) H'
theorem ok_iscalc (T : Tp K w mg) : ∀ n, FnOk P w K mg base CX0 (n + 1 + 1) T.f_iscalc T.fd_iscalc ["thing"] (spCalc K n) := rec_fn fun n ih => by
  refine T.D_iscalc.F.ok sc_iscalc (fun vs H Q E h => ?_) (fun cdv A outer s H vs Q E hr h => ?_)
  · obtain ⟨v, d, rfl, _⟩ := h
    rfl
  · obtain ⟨v, d, rfl, hd, hk, hdep, q⟩ := h
    refine ⟨_, (pss_cons (ps_if (pt_not (pt_val (pe_callB call_isi (by rfl) T.isinstance (by decide +kernel) (pa_cons (pv 0) (pa_cons (pe_bltn (v := .ty "tuple") (by rfl) T.tuple (by decide +kernel) rfl) pa_nil)))))
  (pss_one (ps_ret (pe_or (pcall T.D_isnum (ok_isnum T) (hr.mono (by omega)) (by rfl) (pa_cons (pv 0) pa_nil)) (pe_one (pcall T.D_isname (ok_isname T) (hr.mono (by omega)) (by rfl) (pa_cons (pv 0) pa_nil))))))
  pss_nil)
  (pss_cons (ps_if (PW.pt (pw_or (pt_cmpR op_ne (pe_callB call_len_seq (by rfl) T.len PySem.boot_len (pa_cons (pv 0) pa_nil)) pe_int (nomark _)) (pw_or (pt_not (pt_val (pe_callB call_isi (by rfl) T.isinstance (by decide +kernel) (pa_cons (pe_ix ix_tup (pv 0) pe_int (fun _ _ => rfl)) (pa_cons (pe_bltn (v := .ty "str") (by rfl) T.str (by decide +kernel) rfl) pa_nil))))) (pw_or1 (pt_cmpR op_notIn_seq (pe_ix ix_tup (pv 0) pe_int (fun _ _ => rfl)) (pe_gr (by rfl) T.c_KINDS) (by rfl))))))
  (pss_one (ps_ret pe_bl))
  pss_nil)
  (pss_one (ps_ret (pe_and (pcall T.D_iscalc ih (hr.mono (by omega)) (by rfl) (pa_cons (pe_ix ix_tup (pv 0) pe_int (fun _ _ => rfl)) pa_nil)) (pe_one (pcall T.D_iscalc ih (hr.mono (by omega)) (by rfl) (pa_cons (pe_ix ix_tup (pv 0) pe_int (fun _ _ => rfl)) pa_nil)))))))), ?_⟩
    obtain ⟨ty, kin⟩ := dp_ty hd
    refine ⟨_, rfl, _, _, _, _, _, rfl, .ty "tuple", ty, kit_dat (by decide) kin, _, rfl, ?_⟩
    by_cases ht : kindD d = "tuple"
    · refine ite0 (by rw [decide_eq_true ht]; rfl) ?_
      obtain ⟨ds, rfl⟩ : ∃ ds, d = .tuple ds := by cases d <;> simp [kindD] at ht ⊢
      obtain ⟨a, xs, rfl, hx, hall⟩ := dp_tup hd
      have hl := dpAll_len hall
      refine ⟨_, rfl, _, _, rfl, .inr hx, rfl, _, rfl, ?_⟩
      by_cases h3 : ds.length = 3
      · refine ite0 (by rw [hl, h3]; rfl) ?_
        obtain ⟨d1, d2, d3, rfl⟩ : ∃ d1 d2 d3, ds = [d1, d2, d3] := by
          match ds, h3 with
          | [d1, d2, d3], _ => exact ⟨_, _, _, rfl⟩
        cases hall with
        | cons p1 hall =>
        cases hall with
        | cons p2 hall =>
        cases hall with
        | cons p3 hall =>
        cases hall
        rename_i v1 v2 v3
        have ok3 : okD d1 = true ∧ okD d2 = true ∧ okD d3 = true := by
          simp only [okD, okAll, Bool.and_eq_true] at hk
          exact ⟨hk.2.1, hk.2.2.1, hk.2.2.2.1⟩
        have dep3 : d2.depth + 1 ≤ n ∧ d3.depth + 1 ≤ n := by
          simp only [PyData.depth, PyData.depthAll] at hdep
          omega
        obtain ⟨ty1, kin1⟩ := dp_ty p1
        refine ⟨_, rfl, _, _, _, _, rfl, rfl, hx, atI_nat (j := 0) rfl, _, _, _, _, _, rfl, .ty "str", ty1, kit_dat (by decide) kin1, _, rfl, ?_⟩
        by_cases hs : kindD d1 = "str"
        · obtain ⟨k, rfl⟩ : ∃ k, d1 = .str k := by cases d1 <;> simp [kindD] at hs ⊢
          cases p1
          refine ite0 (by rw [decide_eq_true hs]; rfl) ?_
          refine ⟨_, rfl, _, _, _, _, rfl, rfl, hx, atI_nat (j := 0) rfl, _, _, rfl, .inr (T.t_KINDS H), rfl, rfl, _, rfl, ?_⟩
          have ein : (if true = true then !inV (.str k) [.str "sum", .str "minus", .str "less"] else inV (.str k) [.str "sum", .str "minus", .str "less"]) = !decide (k = "sum" ∨ k = "minus" ∨ k = "less") := by
            rw [if_pos rfl, kinds_in]
          by_cases hkd : k = "sum" ∨ k = "minus" ∨ k = "less"
          · refine ite0 (ein.trans (by rw [decide_eq_true hkd]; rfl)) ?_
            obtain ⟨m, rfl⟩ : ∃ m, n = m + 1 := ⟨n - 1, by omega⟩
            have ec : isCalcD (.tuple [.str k, d2, d3]) = (isCalcD d2 && isCalcD d3) := by show (decide _ && _) = _; rw [decide_eq_true hkd, Bool.true_and]
            rw [ec] at q
            refine ⟨_, rfl, _, _, _, _, rfl, rfl, hx, atI_nat (j := 1) rfl, v2, d2, rfl, p2, ok3.2.1, by omega, fun H1 s1 => ⟨_, rfl, ?_⟩⟩
            cases e2 : isCalcD d2 with
            | false => rw [e2] at q; exact iteF (q H1 s1)
            | true =>
              rw [e2] at q
              exact iteT ⟨_, rfl, _, _, _, _, rfl, rfl, s1.sqt hx, atI_nat (j := 2) rfl, v3, d3, rfl, s1.dp p3, ok3.2.2, by omega, fun H2 s2 => q H2 (s1.trans s2)⟩
          · refine ite1 (ein.trans (by rw [decide_eq_false hkd]; rfl)) ?_
            have h2 := q H (Same.refl H)
            rw [show isCalcD (.tuple [.str k, d2, d3]) = false by show (decide _ && _) = false; rw [decide_eq_false hkd]; rfl] at h2
            exact h2
        · refine ite1 (by rw [decide_eq_false hs]; rfl) ?_
          have h2 := q H (Same.refl H)
          rw [show isCalcD (.tuple [d1, d2, d3]) = false by
            show (isKindD d1 && _) = false
            rw [show isKindD d1 = false by cases d1 <;> first | rfl | exact absurd rfl hs]
            rfl] at h2
          exact h2
      · refine ite1 (by rw [hl]; simp; omega) ?_
        have e : isCalcD (.tuple ds) = false := by
          match ds, h3 with
          | [], _ => rfl
          | [_], _ => rfl
          | [_, _], _ => rfl
          | _ :: _ :: _ :: _ :: _, _ => rfl
        have h2 := q H (Same.refl H)
        rw [e] at h2
        exact h2
    · refine ite1 (by rw [decide_eq_false ht]; rfl) ?_
      have ec : isCalcD d = (isNumD d || isNameD d) := by
        cases d <;> first | rfl | exact absurd rfl ht
      rw [ec] at q
      refine ⟨_, rfl, v, d, rfl, hd, hk, fun H1 s1 => ⟨_, rfl, ?_⟩⟩
      cases e1 : isNumD d with
      | true => rw [e1] at q; exact iteT (q H1 s1)
      | false => rw [e1] at q; exact iteF ⟨_, rfl, v, d, rfl, s1.dp hd, hk, fun H2 s2 => q H2 (s1.trans s2)⟩
end
end T06
namespace T06
open PySem PySem.Spec PyProof.Rows L2 HX HB HG HU HH HD HS
/-! ### the table of parts -/
def partsL : List (Str × List Str) := [("put", ["name", "calc"]), ("read", ["name", "cell"]), ("write", ["cell", "calc"]), ("tell", ["calc"]), ("send", ["channel", "calc"]), ("take", ["name", "channel"]), ("hold", ["lock", "body"]), ("rest", ["rest"]), ("nest", ["scope", "body"]),
  ("within", ["span", "scope", "body"]), ("start", ["home", "body"]), ("off", ["entered"]), ("shield", ["body"]), ("fail", ["name"]), ("catch", ["body", "name", "body"]), ("try", ["body", "body"]), ("if", ["calc", "body", "body"]), ("often", ["times", "body"])]
def kindsOf (w : Str) : Option (List Str) := (partsL.find? fun q => decide (q.1 = w)).map (·.2)
theorem kindsOf_mem {w : Str} {ks : List Str} (h : kindsOf w = some ks) : (w, ks) ∈ partsL := by
  unfold kindsOf at h
  cases e : partsL.find? fun q => decide (q.1 = w) with
  | none => rw [e] at h; cases h
  | some q =>
    rw [e] at h
    cases h
    have h1 := List.mem_of_find?_eq_some e
    have h2 : q.1 = w := by have := List.find?_some e; simpa using this
    rw [← h2]
    exact h1
theorem kinds_len {w : Str} {ks : List Str} (h : kindsOf w = some ks) : ks.length ≤ 3 := by
  have h1 := kindsOf_mem h
  have : ∀ q ∈ partsL, q.2.length ≤ 3 := by decide
  exact this _ h1
def bodiesV {α : Type} : List Str → List α → List α
  | k :: ks, x :: xs => if k = "body" then x :: bodiesV ks xs else bodiesV ks xs
  | _, _ => []
theorem bodiesV_snoc {α : Type} (k : Str) (x : α) : ∀ (ks : List Str) (xs : List α), ks.length = xs.length → bodiesV (ks ++ [k]) (xs ++ [x]) = bodiesV ks xs ++ (if k = "body" then [x] else [])
  | [], [], _ => by
    simp only [List.nil_append, bodiesV]
  | a :: ks, b :: xs, h => by
    have ih := bodiesV_snoc k x ks xs (Nat.succ.inj h)
    simp only [List.cons_append, bodiesV, ih]
    split <;> rfl
theorem bodiesV_len {α : Type} : ∀ (ks : List Str) (xs : List α), (bodiesV ks xs).length ≤ ks.length
  | [], _ => Nat.zero_le _
  | k :: ks, [] => Nat.zero_le _
  | k :: ks, x :: xs => by
    have ih := bodiesV_len ks xs
    simp only [bodiesV, List.length_cons]
    split
    · rw [List.length_cons]; omega
    · omega
theorem bodiesV_cut {α : Type} : ∀ (ks : List Str) (xs : List α), bodiesV (ks.take (min ks.length xs.length)) (xs.take (min ks.length xs.length)) = bodiesV ks xs
  | [], xs => by simp [bodiesV]
  | k :: ks, [] => by simp [bodiesV]
  | k :: ks, x :: xs => by
    have ih := bodiesV_cut ks xs
    rw [List.length_cons, List.length_cons, show min (ks.length + 1) (xs.length + 1) = min ks.length xs.length + 1 by omega, List.take_succ_cons, List.take_succ_cons]
    simp only [bodiesV, ih]
theorem cut1 (xs : List V) : cutV xs (some 1) none = xs.drop 1 := by
  unfold cutV
  rw [show HT.sIx xs.length 0 (some 1) = min 1 xs.length from HT.sIx_nat xs.length 0 1, HT.sIx_none]
  cases xs with
  | nil => rfl
  | cons x r =>
    rw [show min 1 (x :: r).length = 1 by
      rw [List.length_cons]
      omega]
    show (List.take ((x :: r).length - 1) r) = r
    rw [List.length_cons, Nat.add_sub_cancel]
    exact List.take_length
section
variable {P : Program} {w : World} {K : PySem.W.Frag} {mg : Str → Option Value} {base : Heap}
def partsV : List (Str × List V) := partsL.map fun q => (q.1, q.2.map V.str)
theorem Tp.parts (T : Tp K w mg) : DT K w T.a_PARTS partsV := T.d_PARTS
theorem partsV_mem {z : Str} {ks : List Str} (h : kindsOf z = some ks) : (z, ks.map V.str) ∈ partsV := List.mem_map.mpr ⟨(z, ks), kindsOf_mem h, rfl⟩
def spBodies (K : PySem.W.Frag) : Sp := fun vs H Q _ => ∃ (a : Addr) (z : Str) (ks : List Str) (xs : List V), vs = [.ref a] ∧ SqT K H a (.str z :: xs) ∧ kindsOf z = some ks ∧ ∀ (p : Addr) (H' : Hp), H p = none → Same H H' → H' p = some (.lst (bodiesV ks xs)) → Q (.ref p) H'
theorem ok_bodies (T : Tp K w mg) : FnOk P w K mg base CX0 1 T.f_bodies T.fd_bodies ["row"] (spBodies K) := by
  refine T.D_bodies.F.ok sc_bodies (fun vs H Q E h => ?_) (fun cdv A outer s H vs Q E hr h => ?_)
  · obtain ⟨a, z, ks, xs, rfl, _⟩ := h
    rfl
  · obtain ⟨a, z, ks, xs, rfl, hx, hz, q⟩ := h
    refine ⟨_, (pss_one (ps_ret (pe_lc (own := [("kind", 1), ("part", 2)]) (g := gTup K 2 (gCons (gName 1) (gCons (gName 2) gNil))) (by rfl) sc_bodies.nd (RZ.pi_zipA (by rfl) T.zip (pa_cons (pe_ix (HD.ix_dt T.d_PARTS) (pe_gr (by rfl) T.c_PARTS) (pe_ix ix_tup (pv 0) pe_int (fun _ _ => rfl)) (fun _ _ => rfl)) (pa_cons (pe_slice sl_tup (pv 0) (po_some pe_int) po_none) pa_nil))) (blkOk_by (own := [("kind", 1), ("part", 2)]) (N := ["row", "kind", "part"]) (sc := defScope s_bodies) (by decide +kernel)) (fun _ _ _ _ _ => (pg_tup rfl (pgs_cons (pg_name (i := 1) sc_bodies.nd rfl (.inl rfl)) (pgs_cons (pg_name (i := 2) sc_bodies.nd rfl (.inl rfl)) pgs_nil)))) (fun _ _ _ _ _ => (pts_one (pt_cmpR op_eq (pv 1) pe_str (nomark _)))) (fun _ _ _ _ _ => (pv 2))))), ?_⟩
    refine ⟨_, rfl, _, _, _, _, rfl, rfl, hx, atI_nat (j := 0) rfl, _, partsV_mem hz, rfl, rfl, fun t ht => ?_⟩
    refine ⟨_, rfl, 1, rfl, a, _, rfl, hx, ?_, fun p np => ?_⟩
    · rw [show HT.sIx (V.str z :: xs).length 0 (some 1) = min 1 (V.str z :: xs).length from HT.sIx_nat _ 0 1, List.length_cons]
      omega
    rw [cut1]
    have s1 := same_upd (o := .tup ((V.str z :: xs).drop 1)) np
    have hp : (upd H p (.tup ((V.str z :: xs).drop 1))) p = some (.tup xs) := upd_same
    generalize upd H p (.tup ((V.str z :: xs).drop 1)) = H1 at s1 hp ⊢
    refine ⟨t, p, _, _, rfl, .inr ⟨ht H1, stt hp, fun L nL => ?_⟩⟩
    refine lc_it (HE.walk_zipT (xs := ks.map V.str) (ys := xs) (n := min ks.length xs.length) (by rw [List.length_map])) (fun i H2 => Same H1 H2 ∧ H2 L = some (.lst (bodiesV (ks.take i) (xs.take i)))) ⟨same_upd nL, upd_same⟩ (fun i H2 _ g => ⟨ht H2, stt (g.1 _ _ hp)⟩) ?_ ?_
    · rintro i x H2 H3 hi ⟨sm, hL⟩ ⟨Tt, x1, x2, rfl, nT, rfl, g1, g2⟩
      have h1 : i < ks.length := by omega
      have h2 : i < xs.length := by omega
      dsimp only at g1 g2
      rw [List.getElem?_map, List.getElem?_eq_getElem h1] at g1
      rw [List.getElem?_eq_getElem h2] at g2
      cases g1
      cases g2
      have smT := same_upd (o := .tup [.str ks[i], xs[i]]) nT
      have e : bodiesV (ks.take (i + 1)) (xs.take (i + 1)) = bodiesV (ks.take i) (xs.take i) ++ (if ks[i] = "body" then [xs[i]] else []) := by
        rw [List.take_add_one, List.take_add_one, List.getElem?_eq_getElem h1, List.getElem?_eq_getElem h2]
        exact bodiesV_snoc _ _ _ _ (by rw [List.length_take, List.length_take]; omega)
      refine ⟨Tt, _, rfl, stt upd_same, rfl, _, _, rfl, _, _, rfl, rfl, rfl, _, rfl, rfl, _, rfl, ite2 (fun hb => ?_) (fun hb => ?_)⟩
      · have hb : ks[i] = "body" := V.str.inj (of_decide_eq_true hb)
        refine ⟨_, rfl, _, smT _ _ hL, small1000 (Nat.le_trans (bodiesV_len _ _) (by rw [List.length_take]; have := kinds_len hz; omega)), (sm.trans smT).own nL, ?_⟩
        rw [upd_same, e, if_pos hb]
      · have hb : ks[i] ≠ "body" := fun z => hb (decide_eq_true (by rw [z]))
        refine ⟨sm.trans smT, ?_⟩
        rw [e, if_neg hb, List.append_nil]
        exact smT _ _ hL
    · rintro H2 ⟨sm, hL⟩
      rw [bodiesV_cut] at hL
      exact q L H2 (s1.free nL) (s1.trans sm) hL
end
end T06
namespace T06
open PySem PySem.Spec PyProof.Rows L2 HX HB HG HU HH HD HS
/-- what is known: the names of the cells, locks, channels -/
structure Kn (K : PySem.W.Frag) (H : Hp) (kn : Addr) (cs ls hs : List Str) : Prop where
  ex : ∃ c l h : Addr, H kn = some (.dK [(Sum.inr "cell", .ref c), (Sum.inr "lock", .ref l), (Sum.inr "channel", .ref h)]) ∧ SqT K H c (cs.map V.str) ∧ SqT K H l (ls.map V.str) ∧ SqT K H h (hs.map V.str)
/-- what is around: names and words -/
structure Ar (K : PySem.W.Frag) (H : Hp) (ar : Addr) (ps : List (Str × Str)) : Prop where
  ex : ∃ ts : List Addr, SqT K H ar (ts.map V.ref) ∧ Paired (fun t (p : Str × Str) => SqT K H t [.str p.1, .str p.2]) ts ps
  few : ps.length ≤ 1000
theorem Kn.same {K : PySem.W.Frag} {H H' : Hp} {kn : Addr} {cs ls hs : List Str} (k : Kn K H kn cs ls hs) (s : Same H H') : Kn K H' kn cs ls hs := let ⟨c, l, h, e1, e2, e3, e4⟩ := k.ex; ⟨c, l, h, s _ _ e1, s.sqt e2, s.sqt e3, s.sqt e4⟩
theorem Ar.same {K : PySem.W.Frag} {H H' : Hp} {ar : Addr} {ps : List (Str × Str)} (k : Ar K H ar ps) (s : Same H H') : Ar K H' ar ps := ⟨let ⟨ts, e1, e2⟩ := k.ex; ⟨ts, s.sqt e1, paired_imp (fun _ _ h => s.sqt h) e2⟩, k.few⟩
def rangesL : List (Str × (Int × Int)) := [("rest", (0, 9)), ("span", (1, 9)), ("times", (0, 3))]
def rangesV : List (Str × List V) := rangesL.map fun q => (q.1, [V.int q.2.1, V.int q.2.2])
def rangeOf (k : Str) : Option (Int × Int) := (rangesL.find? fun q => decide (q.1 = k)).map (·.2)
theorem rangeOf_mem {k : Str} {r : Int × Int} (h : rangeOf k = some r) : (k, r) ∈ rangesL := by
  unfold rangeOf at h
  cases e : rangesL.find? fun q => decide (q.1 = k) with
  | none => rw [e] at h; cases h
  | some q =>
    rw [e] at h
    cases h
    have h2 : q.1 = k := by have := List.find?_some e; simpa using this
    rw [← h2]
    exact List.mem_of_find?_eq_some e
theorem rangeOf_none {k : Str} (h : rangeOf k = none) : k ∉ rangesV.map (·.1) := by
  intro hm
  obtain ⟨q, hq, rfl⟩ := List.mem_map.mp hm
  obtain ⟨p, hp, rfl⟩ := List.mem_map.mp hq
  unfold rangeOf at h
  cases e : rangesL.find? fun q => decide (q.1 = p.1) with
  | none => exact absurd (List.find?_eq_none.mp e p hp) (by simp)
  | some x => rw [show (fun q : Str × (Int × Int) => decide (q.1 = (p.1, [V.int p.2.1, V.int p.2.2]).1)) = fun q => decide (q.1 = p.1) from rfl, e] at h; cases h
def lookW (ps : List (Str × Str)) (z : Str) : Option Str := lookS (mergeZ [] ps) z
def inRange (d : PyData) (r : Int × Int) : Bool := match d with
  | .int i => decide (r.1 ≤ i) && decide (i ≤ r.2)
  | _ => false
def namePart (kind z : Str) (cs ls hs : List Str) (ps : List (Str × Str)) : Bool :=
  if kind = "cell" then decide (z ∈ cs) else if kind = "lock" then decide (z ∈ ls) else if kind = "channel" then decide (z ∈ hs)
  else if kind = "home" then decide (lookW ps z = some ("nest" : Str))
  else decide (kind = "name") || decide ((lookW ps z).isSome = decide (kind = "entered"))
def strPart (d : PyData) (f : Str → Bool) : Bool := match d with
  | .str z => isNameL z && f z
  | _ => false
def isPartD (cs ls hs : List Str) (ps : List (Str × Str)) (kind : Str) (d : PyData) : Bool :=
  if kind = "calc" then isCalcD d else if kind = "body" then decide (kindD d = "tuple")
  else match rangeOf kind with
    | some r => inRange d r
    | none => strPart d fun z => namePart kind z cs ls hs ps
theorem inV_strs (z : Str) : ∀ zs : List Str, inV (.str z) (zs.map V.str) = decide (z ∈ zs)
  | [] => by simp [inV]
  | y :: zs => by
    have ih := inV_strs z zs
    show (eqV (.str y) (.str z) || inV (.str z) (zs.map V.str)) = _
    rw [ih]
    simp only [eqV, List.mem_cons, Bool.decide_or]
    congr 1
    by_cases h : z = y
    · subst h; simp
    · rw [decide_eq_false h]; exact beq_eq_false_iff_ne.mpr (Ne.symm h)
theorem flat_strs : ∀ zs : List Str, (zs.map V.str).all flatV = true
  | [] => rfl
  | z :: zs => by rw [List.map_cons, List.all_cons, flat_strs zs]; rfl
theorem es_str (y z : Str) : decide (V.str y = V.str z) = decide (y = z) := decide_eq_decide.mpr ⟨fun h => V.str.inj h, fun h => congrArg V.str h⟩
section
variable {P : Program} {w : World} {K : PySem.W.Frag} {mg : Str → Option Value} {base : Heap}
theorem Tp.ranges (T : Tp K w mg) : DT K w T.a_RANGES rangesV := T.d_RANGES
def spPart (K : PySem.W.Frag) (n : Nat) : Sp := fun vs H Q _ => ∃ (kind : Str) (v : V) (d : PyData) (kn ar : Addr) (cs ls hs : List Str) (ps : List (Str × Str)), vs = [.str kind, v, .ref kn, .ref ar] ∧ Dp K H v d ∧ okD d = true ∧ d.depth ≤ n ∧ Kn K H kn cs ls hs ∧ Ar K H ar ps ∧
  ∀ H', Same H H' → Q (.bl (isPartD cs ls hs ps kind d)) H'
theorem ok_ispart (T : Tp K w mg) (n : Nat) : FnOk P w K mg base CX0 (n + 1 + 1 + 1) T.f_ispart T.fd_ispart ["kind", "thing", "known", "around"] (spPart K n) := by
  refine T.D_ispart.F.ok sc_ispart (fun vs H Q E h => ?_) (fun cdv A outer s H vs Q E hr h => ?_)
  · obtain ⟨kind, v, d, kn, ar, cs, ls, hs, ps, rfl, _⟩ := h
    rfl
  · obtain ⟨kind, v, d, kn, ar, cs, ls, hs, ps, rfl, hd, hk, hdep, hkn, har, q⟩ := h
    have hu := hu_of hr
    refine ⟨_, (pss_cons (ps_if (pt_cmpR op_eq (pv 0) pe_str (nomark _))
  (pss_one (ps_ret (pcall T.D_iscalc (ok_iscalc T n) (hr.mono (by omega)) (by rfl) (pa_cons (pv 1) pa_nil))))
  pss_nil)
  (pss_cons (ps_if (pt_cmpR op_eq (pv 0) pe_str (nomark _))
  (pss_one (ps_ret (pe_callB call_isi (by rfl) T.isinstance (by decide +kernel) (pa_cons (pv 1) (pa_cons (pe_bltn (v := .ty "tuple") (by rfl) T.tuple (by decide +kernel) rfl) pa_nil)))))
  pss_nil)
  (pss_cons (ps_if (pt_cmpR (HD.op_in_dt T.d_RANGES) (pv 0) (pe_gr (by rfl) T.c_RANGES) (by rfl))
  (pss_cons (ps_asg (pe_ix (HD.ix_dt T.d_RANGES) (pe_gr (by rfl) T.c_RANGES) (pv 0) (fun _ _ => rfl)) (pg_tup rfl (pgs_cons (pg_name (i := 4) sc_ispart.nd rfl (.inl rfl)) (pgs_cons (pg_name (i := 5) sc_ispart.nd rfl (.inl rfl)) pgs_nil))))
  (pss_one (ps_ret (pe_and (pcall T.D_isnum (ok_isnum T) (hr.mono (by omega)) (by rfl) (pa_cons (pv 1) pa_nil)) (pe_one (pe_chain op_le op_le (pv 4) (pv 1) (pv 5)))))))
  pss_nil)
  (pss_cons (ps_if (pt_not (pt_val (pcall T.D_isname (ok_isname T) (hr.mono (by omega)) (by rfl) (pa_cons (pv 1) pa_nil))))
  (pss_one (ps_ret pe_bl))
  pss_nil)
  (pss_cons (ps_if (pt_cmp (pc_din hu (pv 0) (pv 2)))
  (pss_one (ps_ret (pe_cmpR op_in_seq (pv 1) (pe_dget hu (pv 2) (pv 0) (fun _ _ => rfl)) (by rfl))))
  pss_nil)
  (pss_cons (HD.ps_setDc (i := 6) (own := [("name", 7), ("word", 8)]) (g := gTup K 2 (gCons (gName 7) (gCons (gName 8) gNil))) (by rfl) sc_ispart.nd rfl rfl (HD.sw_dict rfl rfl rfl (by decide +kernel)) (pi_tup (pv 3)) (blkOk_by (own := [("name", 7), ("word", 8)]) (N := ["kind", "thing", "known", "around", "least", "most", "words", "name", "word"]) (sc := defScope s_ispart) (by decide +kernel)) (fun _ _ _ _ _ => (pg_tup rfl (pgs_cons (pg_name (i := 7) sc_ispart.nd rfl (.inl rfl)) (pgs_cons (pg_name (i := 8) sc_ispart.nd rfl (.inl rfl)) pgs_nil)))) (fun _ _ _ _ _ => pts_nil) (fun _ _ _ _ _ => (pv 7)) (fun _ _ _ _ _ => (pv 8)))
  (pss_cons (ps_if (pt_cmpR op_eq (pv 0) pe_str (nomark _))
  (pss_one (ps_ret (pe_cmpR op_eq (pe_dget1 hu (pv 6) (pv 1) ⟨by rfl, by rfl, by rfl, by rfl⟩) pe_str (nomark _))))
  pss_nil)
  (pss_one (ps_ret (pe_or (pe_cmpR op_eq (pv 0) pe_str (nomark _)) (pe_one (pe_cmpR op_eq (pe_cmp (pc_din hu (pv 1) (pv 6))) (pe_cmpR op_eq (pv 0) pe_str (nomark _)) (nomark _))))))))))))), ?_⟩
    obtain ⟨ty, kin⟩ := dp_ty hd
    refine ⟨_, rfl, rfl, _, rfl, ?_⟩
    rw [es_str]
    refine ite2 (fun h1 => ?_) (fun h1 => ?_)
    · have e : isPartD cs ls hs ps kind d = isCalcD d := by unfold isPartD; rw [if_pos (of_decide_eq_true h1)]
      rw [e] at q
      exact ⟨_, rfl, v, d, rfl, hd, hk, hdep, q⟩
    have n1 : kind ≠ "calc" := fun z => h1 (decide_eq_true z)
    refine ⟨_, rfl, rfl, _, rfl, ?_⟩
    rw [es_str]
    refine ite2 (fun h2 => ?_) (fun h2 => ?_)
    · have e : isPartD cs ls hs ps kind d = decide (kindD d = "tuple") := by unfold isPartD; rw [if_neg n1, if_pos (of_decide_eq_true h2)]
      rw [e] at q
      exact ⟨_, rfl, _, _, _, _, _, rfl, .ty "tuple", ty, kit_dat (by decide) kin, q H (Same.refl H)⟩
    have n2 : kind ≠ "body" := fun z => h2 (decide_eq_true z)
    have up : isPartD cs ls hs ps kind d = match rangeOf kind with
        | some r => inRange d r
        | none => strPart d fun z => namePart kind z cs ls hs ps := by unfold isPartD; rw [if_neg n1, if_neg n2]
    rw [up] at q
    cases hr : rangeOf kind with
    | some r =>
      rw [hr] at q
      dsimp only at q
      have hm := rangeOf_mem hr
      have hmV : (kind, [V.int r.1, V.int r.2]) ∈ rangesV := List.mem_map.mpr ⟨(kind, r), hm, rfl⟩
      refine ⟨_, rfl, kind, rfl, rfl, _, rfl, ite1 (show decide (kind ∈ rangesV.map (·.1)) = true from decide_eq_true (List.mem_map.mpr ⟨_, hmV, rfl⟩)) ?_⟩
      refine ⟨_, rfl, _, hmV, rfl, rfl, fun t ht => ⟨t, _, rfl, ht H, rfl, _, _, rfl, _, _, rfl, rfl, ?_⟩⟩
      refine ⟨_, rfl, v, d, rfl, hd, hk, fun H1 s1 => ⟨_, rfl, ?_⟩⟩
      by_cases hi : ∃ i, d = .int i
      · obtain ⟨i, rfl⟩ := hi
        cases hd
        refine iteT ⟨_, rfl, _, rfl, _, _, rfl, rfl, _, rfl, ?_⟩
        have q := q H1 s1
        refine ite2 (fun h => ?_) (fun h => ?_)
        · refine ⟨_, rfl, _, _, rfl, rfl, ?_⟩
          rw [show inRange (.int i) r = decide (i ≤ r.2) by show (decide _ && _) = _; rw [h, Bool.true_and]] at q
          exact q
        · rw [show inRange (.int i) r = false by show (decide _ && _) = _; rw [Bool.eq_false_iff.mpr h, Bool.false_and]] at q
          exact q
      · have e1 : isNumD d = false := by cases d <;> first | rfl | exact absurd ⟨_, rfl⟩ hi
        have e2 : inRange d r = false := by cases d <;> first | rfl | exact absurd ⟨_, rfl⟩ hi
        rw [e1]
        rw [e2] at q
        exact iteF (q H1 s1)
    | none =>
      rw [hr] at q
      dsimp only at q
      refine ⟨_, rfl, kind, rfl, rfl, _, rfl, ite0 (show decide (kind ∈ rangesV.map (·.1)) = false from decide_eq_false (rangeOf_none hr)) ?_⟩
      refine ⟨_, rfl, v, d, rfl, hd, hk, fun H1 s1 => ⟨_, rfl, ?_⟩⟩
      by_cases hn : isNameD d = true
      · obtain ⟨z, rfl⟩ : ∃ z, d = .str z := by cases d <;> first | exact ⟨_, rfl⟩ | cases hn
        cases hd
        refine ite0 (by rw [hn]; rfl) ?_
        have hn' : isNameL z = true := hn
        have q2 : ∀ H', Same H H' → Q (.bl (namePart kind z cs ls hs ps)) H' := fun H' s' => by
          have h := q H' s'
          rw [show (strPart (.str z) fun z => namePart kind z cs ls hs ps) = namePart kind z cs ls hs ps by show (isNameL z && _) = _; rw [hn', Bool.true_and]] at h
          exact h
        clear q up
        obtain ⟨c, l, h, k1, k2, k3, k4⟩ := (hkn.same s1).ex
        have g := DGet.k (k := Sum.inr kind) k1
        have seq : ∀ (a : Addr) (xs : List Str), SqT K H1 a (xs.map V.str) → Q (.bl (decide (z ∈ xs))) H1 → rIn K false (.str z) (.ref a) H1 Q := fun a xs h1 h2 => ⟨a, _, rfl, .inr h1, rfl, flat_strs xs, by rw [if_neg Bool.false_ne_true, inV_strs]; exact h2⟩
        refine ⟨_, rfl, _, rfl, kn, _, rfl, g, _, rfl, ?_⟩
        by_cases c1 : kind = "cell"
        · subst c1
          refine iteT ⟨_, rfl, _, rfl, _, rfl, kn, _, rfl, g, seq c cs k2 ?_⟩
          exact q2 H1 s1
        by_cases c2 : kind = "lock"
        · subst c2
          refine iteT ⟨_, rfl, _, rfl, _, rfl, kn, _, rfl, g, seq l ls k3 ?_⟩
          exact q2 H1 s1
        by_cases c3 : kind = "channel"
        · subst c3
          refine iteT ⟨_, rfl, _, rfl, _, rfl, kn, _, rfl, g, seq h hs k4 ?_⟩
          exact q2 H1 s1
        have miss : valV [((Sum.inr "cell" : Key), V.ref c), (Sum.inr "lock", .ref l), (Sum.inr "channel", .ref h)] (Sum.inr kind : Key) = none := by
          unfold valV
          simp only [List.find?_cons, key_rr]
          rw [decide_eq_false (Ne.symm c1), decide_eq_false (Ne.symm c2), decide_eq_false (Ne.symm c3)]
          rfl
        rw [miss]
        refine iteF ?_
        have en : namePart kind z cs ls hs ps = if kind = "home" then decide (lookW ps z = some ("nest" : Str)) else decide (kind = "name") || decide ((lookW ps z).isSome = decide (kind = "entered")) := by
          unfold namePart
          rw [if_neg c1, if_neg c2, if_neg c3]
        rw [en] at q2
        -- the words
        obtain ⟨ts, a1, a2⟩ := (har.same s1).ex
        have tl : ts.length = ps.length := a2.length
        refine ⟨_, rfl, ar, rfl, ⟨_, a1⟩, fun D nD => dc_tup (xs := ts.map V.ref) (fun i H2 => Same H1 H2 ∧ H2 D = some (.dK (dz (mergeZ [] (ps.take i))))) ⟨same_upd nD, upd_same⟩ (fun i H2 _ g => g.1.sqt a1) ?_ ?_⟩
        · rintro i x H2 hx ⟨sm, hD⟩
          have hi : i < ts.length := by
            have := (List.getElem?_eq_some_iff.mp hx).1
            rwa [List.length_map] at this
          rw [List.getElem?_map, List.getElem?_eq_getElem hi] at hx
          cases hx
          obtain ⟨p, e1, e2⟩ := paired_at a2 (List.getElem?_eq_getElem hi)
          have tk : ps.take (i + 1) = ps.take i ++ [p] := by rw [List.take_add_one, e1]; rfl
          refine ⟨_, _, rfl, sm.sqt e2, rfl, _, _, rfl, _, _, rfl, rfl, rfl, ?_⟩
          refine ⟨_, rfl, _, rfl, _, Sum.inr p.1, rfl, hD, ?_, sm.own nD, ?_⟩
          · rw [dz, List.length_map]
            refine Evl.sz_lt (Nat.lt_of_le_of_lt (mergeZ_len _ _) ?_)
            have := har.few
            rw [List.length_nil, List.length_take]
            omega
          · rw [upd_same, putZ_dz, tk]
            unfold mergeZ
            rw [List.foldl_append]
            rfl
        · rintro H2 ⟨sm, hD⟩
          rw [List.length_map, tl, List.take_length] at hD
          have gz := DGet.k (k := Sum.inr z) hD
          rw [lookS_val] at gz
          refine ⟨_, rfl, rfl, _, rfl, ?_⟩
          rw [es_str]
          refine ite2 (fun hh => ?_) (fun hh => ?_)
          · rw [if_pos (of_decide_eq_true hh)] at q2
            refine ⟨_, rfl, D, rfl, .inl ⟨_, .inl hD⟩, _, rfl, _, gz, ?_⟩
            have q3 := q2 H2 (s1.trans sm)
            unfold lookW at q3
            cases e : lookS (mergeZ [] ps) z with
            | none => rw [e] at q3; exact ⟨rfl, q3⟩
            | some y =>
              rw [e] at q3
              refine ⟨rfl, ?_⟩
              rw [show decide (some y = some ("nest" : Str)) = decide (y = "nest") from decide_eq_decide.mpr ⟨fun h => Option.some.inj h, fun h => congrArg some h⟩] at q3
              show Q (V.bl (decide (V.str y = V.str "nest"))) H2
              rw [es_str]
              exact q3
          · rw [if_neg (fun e => hh (decide_eq_true e))] at q2
            have q3 := q2 H2 (s1.trans sm)
            refine ⟨_, rfl, rfl, _, rfl, ?_⟩
            rw [es_str]
            refine ite2 (fun h5 => ?_) (fun h5 => ?_)
            · rw [h5] at q3; exact q3
            · rw [Bool.eq_false_iff.mpr h5, Bool.false_or] at q3
              refine ⟨_, rfl, _, rfl, D, _, rfl, gz, _, rfl, rfl, rfl, ?_⟩
              rw [es_str, Option.isSome_map]
              unfold lookW at q3
              have eb : ∀ a b : Bool, decide (V.bl a = V.bl b) = decide (a = b) := fun a b => by cases a <;> cases b <;> rfl
              rw [eb]
              exact q3
      · have e1 : isNameD d = false := Bool.eq_false_iff.mpr hn
        refine ite1 (by rw [e1]; rfl) ?_
        have q := q H1 s1
        have e2 : (strPart d fun z => namePart kind z cs ls hs ps) = false := by
          cases d <;> first | rfl | (show (isNameL _ && _) = false; rw [show isNameL _ = false from e1]; rfl)
        rw [e2] at q
        exact q
end
end T06
namespace T06
open PySem PySem.Spec PyProof.Rows L2 HX HB HG HU HH HD HS
/-! ### rows -/
def isRowD (cs ls hs : List Str) (ps : List (Str × Str)) : PyData → Bool
  | .tuple (.str z :: xs) => match kindsOf z with
    | some ks => decide (xs.length = ks.length) && (ks.zip xs).all fun q => isPartD cs ls hs ps q.1 q.2
    | none => false
  | _ => false
theorem dpAll_at {K : PySem.W.Frag} {H : Hp} : ∀ {xs : List V} {ds : List PyData}, DpAll K H xs ds → ∀ {i : Nat} (h1 : i < xs.length) (h2 : i < ds.length), Dp K H xs[i] ds[i]
  | _, _, .cons p t, 0, _, _ => p
  | _, _, .cons p t, i + 1, h1, h2 => dpAll_at t (Nat.lt_of_succ_lt_succ h1) (Nat.lt_of_succ_lt_succ h2)
theorem depthAll_mem : ∀ {ds : List PyData} {d : PyData}, d ∈ ds → d.depth ≤ PyData.depthAll ds
  | x :: xs, d, h => by
    simp only [PyData.depthAll]
    rcases List.mem_cons.mp h with rfl | h
    · omega
    · have := depthAll_mem h; omega
theorem partsV_key (z : Str) : decide (z ∈ partsV.map (·.1)) = (kindsOf z).isSome := by
  unfold kindsOf partsV
  rw [List.map_map, Option.isSome_map]
  cases e : partsL.find? fun q => decide (q.1 = z) with
  | none =>
    refine decide_eq_false fun h => ?_
    obtain ⟨q, hq, rfl⟩ := List.mem_map.mp h
    exact absurd (List.find?_eq_none.mp e q hq) (by simp)
  | some q =>
    have h2 : q.1 = z := by have := List.find?_some e; simpa using this
    exact decide_eq_true (List.mem_map.mpr ⟨q, List.mem_of_find?_eq_some e, h2⟩)
section
variable {P : Program} {w : World} {K : PySem.W.Frag} {mg : Str → Option Value} {base : Heap}
def spRow (K : PySem.W.Frag) (n : Nat) : Sp := fun vs H Q _ => ∃ (v : V) (d : PyData) (kn ar : Addr) (cs ls hs : List Str) (ps : List (Str × Str)), vs = [v, .ref kn, .ref ar] ∧ Dp K H v d ∧ okD d = true ∧ SeqAt.shaped d = true ∧ d.depth ≤ n ∧ Kn K H kn cs ls hs ∧ Ar K H ar ps ∧
  ∀ H', Same H H' → Q (.bl (isRowD cs ls hs ps d)) H'
theorem ok_isrow (T : Tp K w mg) (n : Nat) : FnOk P w K mg base CX0 (n + 1 + 1 + 1 + 1) T.f_isrow T.fd_isrow ["row", "known", "around"] (spRow K n) := by
  refine T.D_isrow.F.ok sc_isrow (fun vs H Q E h => ?_) (fun cdv A outer s H vs Q E hr h => ?_)
  · obtain ⟨v, d, kn, ar, cs, ls, hs, ps, rfl, _⟩ := h
    rfl
  · obtain ⟨v, d, kn, ar, cs, ls, hs, ps, rfl, hd, hk, hsh, hdep, hkn, har, q⟩ := h
    have hu := hu_of hr
    refine ⟨_, (pss_cons (ps_if (PW.pt (pw_or (pt_not (pt_val (pe_callB call_isi (by rfl) T.isinstance (by decide +kernel) (pa_cons (pv 0) (pa_cons (pe_bltn (v := .ty "tuple") (by rfl) T.tuple (by decide +kernel) rfl) pa_nil))))) (pw_or (pt_cmpR (op_eqD hr.units) (pv 0) (pe_tup pa_nil) (nomark _)) (pw_or (pt_not (pt_val (pe_callB call_isi (by rfl) T.isinstance (by decide +kernel) (pa_cons (pe_ix ix_tup (pv 0) pe_int (fun _ _ => rfl)) (pa_cons (pe_bltn (v := .ty "str") (by rfl) T.str (by decide +kernel) rfl) pa_nil))))) (pw_or1 (pt_cmpR (HD.op_notIn_dt T.d_PARTS) (pe_ix ix_tup (pv 0) pe_int (fun _ _ => rfl)) (pe_gr (by rfl) T.c_PARTS) (by rfl)))))))
  (pss_one (ps_ret pe_bl))
  pss_nil)
  (pss_cons (ps_asg (pv 0) (pg_star (n := 2) (i := 1) rfl (pgs_cons (pg_name (i := 3) sc_isrow.nd rfl (.inl rfl)) (pgs_star (pg_name (i := 4) sc_isrow.nd rfl (.inl rfl)) pgs_nil))))
  (pss_cons (ps_if (pt_cmpR op_ne (pe_callB call_len_seq (by rfl) T.len PySem.boot_len (pa_cons (pv 4) pa_nil)) (pe_callB call_len_seq (by rfl) T.len PySem.boot_len (pa_cons (pe_ix (HD.ix_dt T.d_PARTS) (pe_gr (by rfl) T.c_PARTS) (pv 3) (fun _ _ => rfl)) pa_nil)) (nomark _))
  (pss_one (ps_ret pe_bl))
  pss_nil)
  (pss_one (ps_ret (pe_callB (cr_all rfl) (by rfl) T.all (by decide +kernel) (pa_cons (pe_lc (own := [("kind", 5), ("part", 6)]) (g := gTup K 2 (gCons (gName 5) (gCons (gName 6) gNil))) (by rfl) sc_isrow.nd (HE.pi_zipTL (by rfl) T.zip (pa_cons (pe_ix (HD.ix_dt T.d_PARTS) (pe_gr (by rfl) T.c_PARTS) (pv 3) (fun _ _ => rfl)) (pa_cons (pv 4) pa_nil))) (blkOk_by (own := [("kind", 5), ("part", 6)]) (N := ["row", "known", "around", "word", "parts", "kind", "part"]) (sc := defScope s_isrow) (by decide +kernel)) (fun _ _ _ _ _ => (pg_tup rfl (pgs_cons (pg_name (i := 5) sc_isrow.nd rfl (.inl rfl)) (pgs_cons (pg_name (i := 6) sc_isrow.nd rfl (.inl rfl)) pgs_nil)))) (fun _ _ _ _ _ => pts_nil) (fun _ _ _ _ _ => (pcall T.D_ispart (ok_ispart T n) (hr.mono (by omega)) (by rfl) (pa_cons (pv 5) (pa_cons (pv 6) (pa_cons (pv 1) (pa_cons (pv 2) pa_nil))))))) pa_nil))))))), ?_⟩
    obtain ⟨ty, kin⟩ := dp_ty hd
    refine ⟨_, rfl, _, _, _, _, _, rfl, .ty "tuple", ty, kit_dat (by decide) kin, _, rfl, ?_⟩
    by_cases ht : kindD d = "tuple"
    · refine ite0 (by rw [decide_eq_true ht]; rfl) ?_
      obtain ⟨ds, rfl⟩ : ∃ ds, d = .tuple ds := by cases d <;> simp [kindD] at ht ⊢
      obtain ⟨a, xs, rfl, hx, hall⟩ := dp_tup hd
      have hl := dpAll_len hall
      refine ⟨_, rfl, Nat.zero_le _, fun p np => ?_⟩
      have s1 := same_upd (o := .tup []) np
      have hp : (upd H p (.tup [])) p = some (.tup []) := upd_same
      refine ⟨.tuple ds, .tuple [], s1.dp hd, .tup (stt hp) .nil, hsh, rfl, ?_⟩
      have hx1 := s1.sqt hx
      have hall1 := s1.dpAll hall
      have kn1 := hkn.same s1
      have ar1 := har.same s1
      generalize upd H p (.tup []) = H1 at s1 hx1 hall1 kn1 ar1 ⊢
      cases ds with
      | nil =>
        refine ⟨_, rfl, iteT ?_⟩
        exact q H1 s1
      | cons d0 ds =>
        refine ⟨_, rfl, ite0 rfl ?_⟩
        cases hall1 with
        | cons p0 hall1 =>
        rename_i x0 xs
        obtain ⟨ty0, kin0⟩ := dp_ty p0
        refine ⟨_, rfl, _, _, _, _, rfl, rfl, hx1, atI_nat (j := 0) rfl, _, _, _, _, _, rfl, .ty "str", ty0, kit_dat (by decide) kin0, _, rfl, ?_⟩
        by_cases hs0 : kindD d0 = "str"
        · obtain ⟨z, rfl⟩ : ∃ z, d0 = .str z := by cases d0 <;> simp [kindD] at hs0 ⊢
          cases p0
          refine ite0 (by rw [decide_eq_true hs0]; rfl) ?_
          refine ⟨_, rfl, _, _, _, _, rfl, rfl, hx1, atI_nat (j := 0) rfl, z, rfl, rfl, _, rfl, ?_⟩
          have ek := partsV_key z
          cases ez : kindsOf z with
          | none =>
            rw [ez] at ek
            refine ite1 (show (!decide (z ∈ partsV.map (·.1))) = true by rw [ek]; rfl) ?_
            have h2 := q H1 s1
            rw [show isRowD cs ls hs ps (.tuple (.str z :: ds)) = false by show (match kindsOf z with | some ks => _ | none => _) = false; rw [ez]] at h2
            exact h2
          | some ks =>
            rw [ez] at ek
            refine ite0 (show (!decide (z ∈ partsV.map (·.1))) = false by rw [ek]; rfl) ?_
            have er : isRowD cs ls hs ps (.tuple (.str z :: ds)) = (decide (ds.length = ks.length) && (ks.zip ds).all fun q => isPartD cs ls hs ps q.1 q.2) := by
              show (match kindsOf z with | some ks => _ | none => _) = _
              rw [ez]
            rw [er] at q
            have l1 : xs.length = ds.length := dpAll_len hall1
            have len4 : ds.length ≤ 10000 := by
              simp only [okD, Bool.and_eq_true, decide_eq_true_eq, List.length_cons] at hk
              omega
            refine ⟨_, rfl, a, _, rfl, hx1, by rw [List.length_cons]; omega, by rw [List.length_cons]; omega, fun sp nsp => ?_⟩
            have e1 : List.take ((V.str z :: xs).length + 1 - 2) (List.drop 1 (V.str z :: xs)) = xs := by
              rw [List.length_cons, List.drop_succ_cons, List.drop_zero, show xs.length + 1 + 1 - 2 = xs.length by omega, List.take_length]
            have e2 : List.drop ((V.str z :: xs).length + 1 - 2) (List.drop 1 (V.str z :: xs)) = [] := by
              rw [List.length_cons, List.drop_succ_cons, List.drop_zero, show xs.length + 1 + 1 - 2 = xs.length by omega, List.drop_length]
            rw [e1, e2]
            refine ⟨_, _, rfl, _, _, rfl, rfl, ?_⟩
            have s2 := same_upd (o := .lst xs) nsp
            have hsp : (upd H1 sp (.lst xs)) sp = some (.lst xs) := upd_same
            show tSeq _ _ _ _ (upd H1 sp (.lst xs))
            generalize upd H1 sp (.lst xs) = H2 at s2 hsp ⊢
            have mV := partsV_mem ez
            refine ⟨_, rfl, sp, _, rfl, .inl (sl hsp), _, rfl, _, mV, rfl, rfl, fun t ht => ⟨t, _, rfl, .inr (ht H2), rfl, _, rfl, ?_⟩⟩
            have ei : decide (V.int ((xs.length : Nat) : Int) = V.int ((ks.map V.str).length : Nat)) = decide (ds.length = ks.length) := by
              rw [List.length_map, l1]
              exact decide_eq_decide.mpr ⟨fun h => by have := V.int.inj h; omega, fun h => by rw [h]⟩
            rw [ei]
            by_cases hlen : ds.length = ks.length
            · refine ite0 (by rw [decide_eq_true hlen]; rfl) ?_
              rw [decide_eq_true hlen, Bool.true_and] at q
              refine ⟨_, rfl, _, mV, rfl, rfl, fun t ht => ⟨_, rfl, t, sp, _, _, rfl, ht H2, sl hsp, fun L nL => ?_⟩⟩
              refine lc_it (HE.walk_zipTL (xs := ks.map V.str) (ys := xs) (n := ks.length) (by rw [List.length_map]; omega)) (fun i H3 => Same H2 H3 ∧ H3 L = some (.lst ((((ks.zip ds).take i).map fun q => isPartD cs ls hs ps q.1 q.2).map V.bl))) ⟨same_upd nL, upd_same⟩ (fun i H3 _ g => ⟨ht H3, sl (g.1 _ _ hsp)⟩) ?_ ?_
              · rintro i x H3 H4 hi ⟨sm, hL⟩ ⟨Tt, x1, x2, rfl, nT, rfl, g1, g2⟩
                have h2 : i < xs.length := by omega
                have h3 : i < ds.length := by omega
                dsimp only at g1 g2
                rw [List.getElem?_map, List.getElem?_eq_getElem hi] at g1
                rw [List.getElem?_eq_getElem h2] at g2
                cases g1
                cases g2
                have smT := same_upd (o := .tup [.str ks[i], xs[i]]) nT
                have s14 := s2.trans (sm.trans smT)
                refine ⟨Tt, _, rfl, stt upd_same, rfl, _, _, rfl, _, _, rfl, rfl, rfl, ?_⟩
                have okm : okD ds[i] = true := by
                  simp only [okD, Bool.and_eq_true] at hk
                  exact okAll_mem hk.2 _ (List.mem_cons_of_mem _ (List.getElem_mem h3))
                have depm : ds[i].depth ≤ n := by
                  have := depthAll_mem (List.mem_cons_of_mem (PyData.str z) (List.getElem_mem h3))
                  simp only [PyData.depth] at hdep
                  omega
                refine ⟨_, rfl, _, rfl, _, rfl, _, rfl, ks[i], xs[i], ds[i], kn, ar, cs, ls, hs, ps, rfl, s14.dp (dpAll_at hall1 h2 h3), okm, depm, kn1.same s14, ar1.same s14, fun H5 s5 => ?_⟩
                refine ⟨_, s5 _ _ (smT _ _ hL), ?_, ((sm.trans smT).trans s5).own nL, ?_⟩
                · rw [List.length_map, List.length_map]
                  refine small1000 (Nat.le_trans (List.length_take_le _ _) ?_)
                  have := kinds_len ez
                  omega
                · rw [upd_same, List.take_add_one, List.getElem?_eq_getElem (by rw [List.length_zip]; omega), List.getElem_zip, List.map_append, List.map_append]
                  rfl
              · rintro H3 ⟨sm, hL⟩
                rw [List.take_of_length_le (by rw [List.length_zip]; omega)] at hL
                refine ⟨L, _, rfl, sl hL, ?_⟩
                rw [List.all_map]
                exact q H3 (s1.trans (s2.trans sm))
            · refine ite1 (by rw [decide_eq_false hlen]; rfl) ?_
              have h2 := q H2 (s1.trans s2)
              rw [decide_eq_false hlen, Bool.false_and] at h2
              exact h2
        · refine ite1 (by rw [decide_eq_false hs0]; rfl) ?_
          have h2 := q H1 s1
          rw [show isRowD cs ls hs ps (.tuple (d0 :: ds)) = false by cases d0 <;> first | rfl | exact absurd rfl hs0] at h2
          exact h2
    · refine ite1 (by rw [decide_eq_false ht]; rfl) ?_
      have h2 := q H (Same.refl H)
      rw [show isRowD cs ls hs ps d = false by cases d <;> first | rfl | exact absurd rfl ht] at h2
      exact h2
end
end T06
namespace T06
open PySem PySem.Spec PyProof.Rows L2 HX HB HG HU HH HD HS
/-! ### what is around an inner body -/
def aroundP (z h nm : Str) (ps : List (Str × Str)) : List (Str × Str) :=
  if z = "start" then ps.take ((ps.map (·.1)).idxOf h + 1) else if z = "nest" ∨ z = "within" then ps ++ [(nm, z)] else ps
section
variable {P : Program} {w : World} {K : PySem.W.Frag} {mg : Str → Option Value} {base : Heap}
def spAround (K : PySem.W.Frag) : Sp := fun vs H Q _ => ∃ (a ar : Addr) (xs : List V) (z h nm : Str) (ps : List (Str × Str)), vs = [.ref a, .ref ar] ∧ SqT K H a xs ∧ xs[0]? = some (.str z) ∧ Ar K H ar ps ∧ ps.length + 1 ≤ 1000 ∧
  (z = "start" → xs[1]? = some (.str h) ∧ h ∈ ps.map (·.1)) ∧ (z = "nest" ∨ z = "within" → atI xs (-2) = some (.str nm)) ∧
  ∀ (ar' : Addr) (H' : Hp), Same H H' → Ar K H' ar' (aroundP z h nm ps) → Q (.ref ar') H'
theorem in_two' (c x y : Str) : inV (.str c) [.str x, .str y] = decide (c = x ∨ c = y) := by
  have e := inV_strs c [x, y]
  rw [show ([x, y].map V.str) = [.str x, .str y] from rfl] at e
  rw [e]
  exact decide_eq_decide.mpr (by simp)
theorem ok_around (T : Tp K w mg) : FnOk P w K mg base CX0 1 T.f_around T.fd_around ["row", "around"] (spAround K) := by
  refine T.D_around.F.ok sc_around (fun vs H Q E h => ?_) (fun cdv A outer s H vs Q E hr h => ?_)
  · obtain ⟨a, ar, xs, z, h, nm, ps, rfl, _⟩ := h
    rfl
  · obtain ⟨a, ar, xs, z, h, nm, ps, rfl, hx, hz, har, hfew, hst, hnw, q⟩ := h
    refine ⟨_, (pss_cons (ps_if (pt_cmpR op_eq (pe_ix ix_tup (pv 0) pe_int (fun _ _ => rfl)) pe_str (nomark _))
  (pss_one (ps_ret (pe_slice HT2.sl_tupA (pv 1) po_none (po_some (pe_op op_add (pe_bm PySem.F.plainAttrs_list PySem.F.slot_list_index PySem.F.type_list_index mt_index (pe_lc (own := [("name", 2), ("word", 3)]) (g := gTup K 2 (gCons (gName 2) (gCons (gName 3) gNil))) (by rfl) sc_around.nd (pi_tup (pv 1)) (blkOk_by (own := [("name", 2), ("word", 3)]) (N := ["row", "around", "name", "word"]) (sc := defScope s_around) (by decide +kernel)) (fun _ _ _ _ _ => (pg_tup rfl (pgs_cons (pg_name (i := 2) sc_around.nd rfl (.inl rfl)) (pgs_cons (pg_name (i := 3) sc_around.nd rfl (.inl rfl)) pgs_nil)))) (fun _ _ _ _ _ => pts_nil) (fun _ _ _ _ _ => (pv 2))) (pa_cons (pe_ix ix_tup (pv 0) pe_int (fun _ _ => rfl)) pa_nil)) pe_int)))))
  pss_nil)
  (pss_cons (ps_if (pt_cmpR op_in_seq (pe_ix ix_tup (pv 0) pe_int (fun _ _ => rfl)) (pe_tup (pa_cons pe_str (pa_cons pe_str pa_nil))) (by rfl))
  (pss_one (ps_ret (pe_op HT2.op_catA (pv 1) (pe_tup (pa_cons (pe_tup (pa_cons (pe_ix ix_tup (pv 0) (pe_un un_neg pe_int) (fun _ _ => rfl)) (pa_cons (pe_ix ix_tup (pv 0) pe_int (fun _ _ => rfl)) pa_nil))) pa_nil)))))
  pss_nil)
  (pss_one (ps_ret (pv 1))))), ?_⟩
    have at0 := atI_nat hz
    refine ⟨_, rfl, _, _, _, _, rfl, rfl, hx, at0, rfl, _, rfl, ?_⟩
    rw [es_str]
    refine ite2 (fun h1 => ?_) (fun h1 => ?_)
    · have h1 := of_decide_eq_true h1
      obtain ⟨k1, k2⟩ := hst h1
      rw [show aroundP z h nm ps = ps.take ((ps.map (·.1)).idxOf h + 1) by unfold aroundP; rw [if_pos h1]] at q
      obtain ⟨ts, a1, a2⟩ := har.ex
      have tl : ts.length = ps.length := a2.length
      refine ⟨_, rfl, _, rfl, ar, rfl, ⟨_, a1⟩, fun L nL => lc_it (walk_tup (xs := ts.map V.ref)) (fun i H2 => Same H H2 ∧ H2 L = some (.lst (((ps.take i).map (·.1)).map V.str))) ⟨same_upd nL, upd_same⟩ (fun i H2 _ g => g.1.sqt a1) ?_ ?_⟩
      · rintro i x H2 H3 hi ⟨sm, hL⟩ ⟨rfl, hx⟩
        rw [List.length_map] at hi
        rw [List.getElem?_map, List.getElem?_eq_getElem hi] at hx
        cases hx
        obtain ⟨p, e1, e2⟩ := paired_at a2 (List.getElem?_eq_getElem hi)
        refine ⟨_, _, rfl, sm.sqt e2, rfl, _, _, rfl, _, _, rfl, rfl, rfl, ?_⟩
        refine ⟨_, rfl, _, hL, ?_, sm.own nL, ?_⟩
        · rw [List.length_map, List.length_map]
          exact small1000 (Nat.le_trans (List.length_take_le _ _) (by omega))
        · rw [upd_same, List.take_add_one, e1, List.map_append, List.map_append]
          rfl
      · rintro H2 ⟨sm, hL⟩
        rw [List.length_map, tl, List.take_length] at hL
        have hj : (ps.map (·.1)).idxOf h < (ps.map (·.1)).length := List.idxOf_lt_length_of_mem k2
        have eqs : ∀ y z : Str, eqV (.str y) (.str z) = decide (y = z) := fun y z => by
          simp only [eqV]
          by_cases e : y = z
          · subst e; simp
          · rw [decide_eq_false e]; exact beq_eq_false_iff_ne.mpr e
        refine ⟨.inl ⟨rfl, _, sl hL⟩, _, rfl, _, _, _, _, rfl, rfl, sm.sqt hx, atI_nat (j := 1) k1, ?_⟩
        refine ⟨L, _, .str h, (ps.map (·.1)).idxOf h, .str h, rfl, rfl, sl hL, rfl, flat_strs _, ?_, ?_, ?_, _, _, rfl, rfl, ?_⟩
        · rw [List.getElem?_map, List.getElem?_eq_getElem hj, List.getElem_idxOf hj]
          rfl
        · rw [eqs]; exact decide_eq_true rfl
        · intro m z' hm hz'
          rw [List.getElem?_map] at hz'
          cases e : (ps.map (·.1))[m]? with
          | none => rw [e] at hz'; cases hz'
          | some y =>
            rw [e] at hz'
            cases hz'
            rw [eqs]
            refine decide_eq_false fun ey => ?_
            subst ey
            obtain ⟨hm2, e2⟩ := List.getElem?_eq_some_iff.mp e
            have h3 := List.not_of_lt_findIdx (p := (· == y)) (xs := ps.map (·.1)) hm
            rw [e2] at h3
            simp at h3
        · have har2 := har.same sm
          obtain ⟨ts2, b1, b2⟩ := har2.ex
          have tl2 : ts2.length = ps.length := b2.length
          generalize (ps.map (·.1)).idxOf h = j at hj q ⊢
          rw [List.length_map] at hj
          have ej : ((j : Int) + 1) = ((j + 1 : Nat) : Int) := by omega
          refine ⟨_, rfl, ar, _, rfl, b1, fun hw => ?_, fun hw p np => ?_⟩
          · have e : ps.take (j + 1) = ps := by
              have h2 := hw.2
              rw [ej, HT.sIx_nat, List.length_map, tl2] at h2
              exact List.take_of_length_le (by omega)
            rw [e] at q
            exact q ar H2 sm har2
          · have s3 := same_upd (o := .tup (cutV (ts2.map V.ref) none (some ((j : Int) + 1)))) np
            have ec : cutV (ts2.map V.ref) none (some ((j : Int) + 1)) = (ts2.take (j + 1)).map V.ref := by
              rw [ej, cut_to, List.map_take]
            refine q p _ (sm.trans s3) ⟨⟨ts2.take (j + 1), stt (by rw [upd_same, ec]), ?_⟩, by rw [List.length_take]; omega⟩
            have pt : ∀ {l : List Addr} {m : List (Str × Str)} (k : Nat), Paired (fun t (p : Str × Str) => SqT K H2 t [.str p.1, .str p.2]) l m → Paired (fun t (p : Str × Str) => SqT K H2 t [.str p.1, .str p.2]) (l.take k) (m.take k) := by
              intro l m k hp
              induction hp generalizing k with
              | nil => rw [List.take_nil, List.take_nil]; exact .nil
              | cons x t ih =>
                cases k with
                | zero => exact .nil
                | succ k => rw [List.take_succ_cons, List.take_succ_cons]; exact .cons x (ih k)
            exact paired_imp (fun _ _ h => s3.sqt h) (pt (j + 1) b2)
    refine ⟨_, rfl, _, _, _, _, rfl, rfl, hx, at0, by show 2 ≤ sizeLine; decide, fun p np => ?_⟩
    have s1 := same_upd (o := .tup [.str "nest", .str "within"]) np
    refine ⟨p, _, rfl, .inr (stt upd_same), rfl, rfl, _, rfl, ?_⟩
    rw [if_neg Bool.false_ne_true, in_two']
    have n1 : z ≠ "start" := fun e => h1 (decide_eq_true e)
    refine ite2 (fun h2 => ?_) (fun h2 => ?_)
    · have h2 := of_decide_eq_true h2
      rw [show aroundP z h nm ps = ps ++ [(nm, z)] by unfold aroundP; rw [if_neg n1, if_pos h2]] at q
      have har1 := har.same s1
      have hx1 := s1.sqt hx
      generalize upd H p (.tup [.str "nest", .str "within"]) = H1 at s1 har1 hx1 ⊢
      obtain ⟨ts, b1, b2⟩ := har1.ex
      have tl : ts.length = ps.length := b2.length
      refine ⟨_, rfl, _, rfl, _, rfl, a, _, _, _, rfl, rfl, hx1, hnw h2, _, rfl, _, _, _, _, rfl, rfl, hx1, at0, by show 2 ≤ sizeLine; decide, fun t nt => ?_⟩
      have s2 := same_upd (o := .tup [.str nm, .str z]) nt
      have ht : (upd H1 t (.tup [.str nm, .str z])) t = some (.tup [.str nm, .str z]) := upd_same
      generalize upd H1 t (.tup [.str nm, .str z]) = H2 at s2 ht ⊢
      refine ⟨by show 1 ≤ sizeLine; decide, fun t1 nt1 => ?_⟩
      have s3 := same_upd (o := .tup [.ref t]) nt1
      have ht1 : (upd H2 t1 (.tup [.ref t])) t1 = some (.tup [.ref t]) := upd_same
      generalize upd H2 t1 (.tup [.ref t]) = H3 at s3 ht1 ⊢
      have s13 := s2.trans s3
      refine ⟨ar, t1, _, [.ref t], rfl, rfl, s13.sqt b1, stt ht1, by rw [List.length_map]; exact Evl.sz_of (by show ts.length + 1 ≤ _; omega), fun e => ?_, (fun _ e => nomatch e), fun _ _ p2 np2 => ?_⟩
      · have e0 : ps = [] := by
          have := congrArg List.length e
          rw [List.length_map, List.length_nil] at this
          exact List.length_eq_zero_iff.mp (by omega)
        subst e0
        exact q t1 H3 (s1.trans s13) ⟨⟨[t], stt ht1, .cons (stt (s3 _ _ ht)) .nil⟩, by show 1 ≤ 1000; decide⟩
      · have s4 := same_upd (o := .tup (ts.map V.ref ++ [.ref t])) np2
        refine q p2 _ (s1.trans (s13.trans s4)) ⟨⟨ts ++ [t], stt (by rw [upd_same, List.map_append]; rfl), ?_⟩, by rw [List.length_append]; exact hfew⟩
        exact (paired_imp (fun _ _ h => (s13.trans s4).sqt h) b2).snoc (stt ((s3.trans s4) _ _ ht))
    · rw [show aroundP z h nm ps = ps by unfold aroundP; rw [if_neg n1, if_neg (fun e => h2 (decide_eq_true e))]] at q
      exact ⟨_, rfl, q ar _ s1 (har.same s1)⟩
end
end T06
namespace T06
open PySem PySem.Spec PyProof.Rows L2 HX HB HG HU HH HD HS
/-! ### the first wrong place -/
def firstSome {α β : Type} (f : Nat → α → Option β) : Nat → List α → Option β
  | _, [] => none
  | i, x :: xs => match f i x with
    | some b => some b
    | none => firstSome f (i + 1) xs
def wordD : PyData → Str
  | .tuple (.str z :: _) => z
  | _ => ""
def homeD : PyData → Str
  | .tuple (_ :: .str h :: _) => h
  | _ => ""
def txtD : PyData → Str
  | .str z => z
  | _ => ""
def lastD : PyData → Str
  | .tuple ds => txtD (ds.getD (ds.length - 2) .none)
  | _ => ""
def arD (d : PyData) (ps : List (Str × Str)) : List (Str × Str) := aroundP (wordD d) (homeD d) (lastD d) ps
def bodiesD : PyData → List PyData
  | .tuple (.str z :: ds) => match kindsOf z with
    | some ks => bodiesV ks ds
    | none => []
  | _ => []
def rowsD : PyData → List PyData
  | .tuple ds => ds
  | _ => []
def oftD (d : PyData) : Int := if wordD d = "often" then 1 else 0
def wrongD (cs ls hs : List Str) : Nat → List PyData → List Int → List (Str × Str) → Int → Option (List Int)
  | 0, _, _, _, _ => none
  | n + 1, rows, place, ps, oft => firstSome (fun i row =>
      if 19 < place.length + 1 ∨ isRowD cs ls hs ps row = false then some (place ++ [(i : Int)])
      else if 3 < oft + oftD row then some (place ++ [(i : Int)])
      else firstSome (fun j b => wrongD cs ls hs n (rowsD b) (place ++ [(i : Int)] ++ [(j : Int)]) (arD row ps) (oft + oftD row)) 0 (bodiesD row)) 0 rows
/-- what a right row has -/
structure RowOk (cs ls hs : List Str) (ps : List (Str × Str)) (d : PyData) (z : Str) (ks : List Str) (ds : List PyData) : Prop where
  eq : d = .tuple (.str z :: ds)
  ks_ : kindsOf z = some ks
  len : ds.length = ks.length
  parts : ∀ q ∈ ks.zip ds, isPartD cs ls hs ps q.1 q.2 = true
theorem row_ok {cs ls hs : List Str} {ps : List (Str × Str)} {d : PyData} (h : isRowD cs ls hs ps d = true) : ∃ z ks ds, RowOk cs ls hs ps d z ks ds := by
  unfold isRowD at h
  split at h
  · rename_i z ds
    cases e : kindsOf z with
    | none => rw [e] at h; cases h
    | some ks =>
      rw [e] at h
      simp only [Bool.and_eq_true, decide_eq_true_eq] at h
      exact ⟨z, ks, ds, rfl, e, h.1, fun q hq => List.all_eq_true.mp h.2 q hq⟩
  · cases h
theorem mergeZ_mem : ∀ (ps acc : List (Str × Str)) (z : Str), z ∈ (mergeZ acc ps).map (·.1) → z ∈ acc.map (·.1) ∨ z ∈ ps.map (·.1)
  | [], acc, z, h => .inl h
  | p :: ps, acc, z, h => by
    rcases mergeZ_mem ps (putZ acc p.1 p.2) z h with h | h
    · rw [putZ_keys] at h
      split at h
      · exact .inl h
      · rcases List.mem_append.mp h with h | h
        · exact .inl h
        · exact .inr (by rw [List.mem_singleton.mp h, List.map_cons]; exact List.mem_cons_self ..)
    · exact .inr (by rw [List.map_cons]; exact List.mem_cons_of_mem _ h)
theorem lookW_mem {ps : List (Str × Str)} {z w : Str} (h : lookW ps z = some w) : z ∈ ps.map (·.1) := by
  unfold lookW lookS at h
  cases e : (mergeZ [] ps).find? fun p => decide (p.1 = z) with
  | none => rw [e] at h; cases h
  | some q =>
    have h1 := List.mem_of_find?_eq_some e
    have h2 : q.1 = z := by have := List.find?_some e; simpa using this
    rcases mergeZ_mem ps [] z (List.mem_map.mpr ⟨q, h1, h2⟩) with h | h
    · cases h
    · exact h
theorem part_home {cs ls hs : List Str} {ps : List (Str × Str)} {d : PyData} (h : isPartD cs ls hs ps "home" d = true) : ∃ z, d = .str z ∧ z ∈ ps.map (·.1) := by
  have e : isPartD cs ls hs ps "home" d = strPart d fun z => namePart "home" z cs ls hs ps := rfl
  rw [e] at h
  cases d with
  | str z =>
    refine ⟨z, rfl, ?_⟩
    have h2 : (isNameL z && decide (lookW ps z = some ("nest" : Str))) = true := h
    rw [Bool.and_eq_true] at h2
    exact lookW_mem (of_decide_eq_true h2.2)
  | _ => cases h
theorem part_scope {cs ls hs : List Str} {ps : List (Str × Str)} {d : PyData} (h : isPartD cs ls hs ps "scope" d = true) : ∃ z, d = .str z := by
  have e : isPartD cs ls hs ps "scope" d = strPart d fun z => namePart "scope" z cs ls hs ps := rfl
  rw [e] at h
  cases d with
  | str z => exact ⟨z, rfl⟩
  | _ => cases h
theorem part_body {cs ls hs : List Str} {ps : List (Str × Str)} {d : PyData} (h : isPartD cs ls hs ps "body" d = true) : d = .tuple (rowsD d) := by
  have e : isPartD cs ls hs ps "body" d = decide (kindD d = "tuple") := rfl
  rw [e] at h
  cases d <;> first | rfl | exact absurd (of_decide_eq_true h) (by simp [kindD])
theorem bodies_parts : ∀ {ks : List Str} {ds : List PyData} {P : PyData → Prop}, (∀ q ∈ ks.zip ds, q.1 = "body" → P q.2) → ∀ b ∈ bodiesV ks ds, P b
  | [], _, P, _, b, hb => by simp [bodiesV] at hb
  | k :: ks, [], P, _, b, hb => by simp [bodiesV] at hb
  | k :: ks, d :: ds, P, h, b, hb => by
    have ih := bodies_parts (ks := ks) (ds := ds) (P := P) fun q hq => h q (by rw [List.zip_cons_cons]; exact List.mem_cons_of_mem _ hq)
    simp only [bodiesV] at hb
    split at hb
    · rename_i hk
      rcases List.mem_cons.mp hb with rfl | hb
      · exact h (k, b) (by rw [List.zip_cons_cons]; exact List.mem_cons_self ..) hk
      · exact ih b hb
    · exact ih b hb
theorem bodiesV_mem {α : Type} : ∀ {ks : List Str} {ds : List α} {b : α}, b ∈ bodiesV ks ds → b ∈ ds
  | [], _, b, h => by simp [bodiesV] at h
  | k :: ks, [], b, h => by simp [bodiesV] at h
  | k :: ks, d :: ds, b, h => by
    simp only [bodiesV] at h
    split at h
    · rcases List.mem_cons.mp h with rfl | h
      · exact List.mem_cons_self ..
      · exact List.mem_cons_of_mem _ (bodiesV_mem h)
    · exact List.mem_cons_of_mem _ (bodiesV_mem h)
theorem kinds_start : kindsOf "start" = some (["home", "body"] : List Str) := rfl
theorem kinds_nest : kindsOf "nest" = some (["scope", "body"] : List Str) := rfl
theorem kinds_within : kindsOf "within" = some (["span", "scope", "body"] : List Str) := rfl
/-- data that the rules take, of depth n at most -/
structure Good (d : PyData) (n : Nat) : Prop where
  ok : okD d = true
  lay : PyData.canLay0 d = true
  dep : d.depth ≤ n
theorem canLay_mem : ∀ {xs : List PyData}, PyData.canLayAll0 xs = true → ∀ x ∈ xs, PyData.canLay0 x = true
  | y :: ys, h, x, hx => by
    simp only [PyData.canLayAll0, Bool.and_eq_true] at h
    rcases List.mem_cons.mp hx with rfl | hx
    · exact h.1
    · exact canLay_mem h.2 x hx
theorem Good.item {ds : List PyData} {n : Nat} (g : Good (.tuple ds) (n + 1)) {d : PyData} (h : d ∈ ds) : Good d n := by
  obtain ⟨h1, h2, h3⟩ := g
  simp only [okD, Bool.and_eq_true] at h1
  simp only [PyData.depth] at h3
  refine ⟨okAll_mem h1.2 d h, ?_, by have := depthAll_mem h; omega⟩
  exact canLay_mem (by simpa [PyData.canLay0] using h2) d h
theorem Good.shaped {d : PyData} {n : Nat} (g : Good d n) (hn : n ≤ 64) : SeqAt.shaped d = true := by
  show (PyData.canLay0 d && decide (d.depth ≤ 64)) = true
  rw [g.lay, decide_eq_true (Nat.le_trans g.dep hn)]
  rfl
theorem Good.mono {d : PyData} {n m : Nat} (g : Good d n) (h : n ≤ m) : Good d m := ⟨g.ok, g.lay, Nat.le_trans g.dep h⟩
end T06
namespace T06
open PySem PySem.Spec PyProof.Rows L2 HX HB HG HU HH HD HS
def Res (K : PySem.W.Frag) (H : Hp) (r : Option (List Int)) (v : V) : Prop := match r with
  | none => v = .non
  | some p => ∃ t : Addr, v = .ref t ∧ SqT K H t (p.map V.int)
theorem Res.same {K : PySem.W.Frag} {H H' : Hp} {r : Option (List Int)} {v : V} (h : Res K H r v) (s : Same H H') : Res K H' r v := by
  cases r with
  | none => exact h
  | some p => obtain ⟨t, e, h⟩ := h; exact ⟨t, e, s.sqt h⟩
/-- what one row comes to -/
def rowF (cs ls hs : List Str) (n : Nat) (place : List Int) (ps : List (Str × Str)) (oft : Int) (i : Nat) (row : PyData) : Option (List Int) :=
  if 19 < place.length + 1 ∨ isRowD cs ls hs ps row = false then some (place ++ [(i : Int)])
  else if 3 < oft + oftD row then some (place ++ [(i : Int)])
  else firstSome (fun j b => wrongD cs ls hs n (rowsD b) (place ++ [(i : Int)] ++ [(j : Int)]) (arD row ps) (oft + oftD row)) 0 (bodiesD row)
theorem firstSome_at {α β : Type} (f : Nat → α → Option β) {xs : List α} {i : Nat} (h : i < xs.length) : firstSome f i (xs.drop i) = match f i xs[i] with
    | some b => some b
    | none => firstSome f (i + 1) (xs.drop (i + 1)) := by
  rw [List.drop_eq_getElem_cons h]
  rfl
theorem dpAll_bodies {K : PySem.W.Frag} {H : Hp} : ∀ (ks : List Str) {xs : List V} {ds : List PyData}, DpAll K H xs ds → DpAll K H (bodiesV ks xs) (bodiesV ks ds)
  | [], _, _, _ => .nil
  | k :: ks, _, _, .nil => .nil
  | k :: ks, _, _, .cons p t => by
    have ih := dpAll_bodies ks t
    simp only [bodiesV]
    split
    · exact .cons p ih
    · exact ih
theorem dpAll_cons {K : PySem.W.Frag} {H : Hp} {xs : List V} {d : PyData} {ds : List PyData} (h : DpAll K H xs (d :: ds)) : ∃ x ys, xs = x :: ys ∧ Dp K H x d ∧ DpAll K H ys ds := by
  cases h with
  | cons p t => exact ⟨_, _, rfl, p, t⟩
theorem dpAll_nil {K : PySem.W.Frag} {H : Hp} {xs : List V} (h : DpAll K H xs []) : xs = [] := by
  cases h
  rfl
theorem around_ok {cs ls hs : List Str} {ps : List (Str × Str)} {z : Str} {ks : List Str} {ds : List PyData} {K : PySem.W.Frag} {H : Hp} {rxs : List V} (R : RowOk cs ls hs ps (.tuple (.str z :: ds)) z ks ds) (rall : DpAll K H rxs ds) :
    (z = "start" → (V.str z :: rxs)[1]? = some (.str (homeD (.tuple (.str z :: ds)))) ∧ homeD (.tuple (.str z :: ds)) ∈ ps.map (·.1)) ∧
    (z = "nest" ∨ z = "within" → atI (V.str z :: rxs) (-2) = some (.str (lastD (.tuple (.str z :: ds))))) := by
  obtain ⟨_, hk, hl, hp⟩ := R
  refine ⟨fun e => ?_, fun e => ?_⟩
  · subst e
    rw [kinds_start] at hk
    cases hk
    match ds, rall, hl, hp with
    | [d1, d2], rall, _, hp =>
      obtain ⟨h, rfl, hm⟩ := part_home (hp ("home", d1) (List.mem_cons_self ..))
      cases rall with
      | cons p1 rall => cases p1; exact ⟨rfl, hm⟩
  · rcases e with rfl | rfl
    · rw [kinds_nest] at hk
      cases hk
      match ds, rall, hl, hp with
      | [d1, d2], rall, _, hp =>
        obtain ⟨h, rfl⟩ := part_scope (hp ("scope", d1) (List.mem_cons_self ..))
        obtain ⟨x1, r1, rfl, p1, rall⟩ := dpAll_cons rall
        obtain ⟨x2, r2, rfl, p2, rall⟩ := dpAll_cons rall
        cases dpAll_nil rall
        cases p1
        rfl
    · rw [kinds_within] at hk
      cases hk
      match ds, rall, hl, hp with
      | [d0, d1, d2], rall, _, hp =>
        obtain ⟨h, rfl⟩ := part_scope (hp ("scope", d1) (List.mem_cons_of_mem _ (List.mem_cons_self ..)))
        obtain ⟨x0, r0, rfl, p0, rall⟩ := dpAll_cons rall
        obtain ⟨x1, r1, rfl, p1, rall⟩ := dpAll_cons rall
        obtain ⟨x2, r2, rfl, p2, rall⟩ := dpAll_cons rall
        cases dpAll_nil rall
        cases p1
        rfl
theorem around_len (z h nm : Str) (ps : List (Str × Str)) : (aroundP z h nm ps).length ≤ ps.length + 1 := by
  unfold aroundP
  split
  · rw [List.length_take]; omega
  · split
    · rw [List.length_append, List.length_singleton]; omega
    · omega
section
variable {P : Program} {w : World} {K : PySem.W.Frag} {mg : Str → Option Value} {base : Heap}
def spWrong (K : PySem.W.Frag) (N n : Nat) : Sp := fun vs H Q _ => ∃ (b pl kn ar : Addr) (rows : List PyData) (place : List Int) (cs ls hs : List Str) (ps : List (Str × Str)) (oft : Int), vs = [.ref b, .ref pl, .ref kn, .ref ar, .int oft] ∧
  Dp K H (.ref b) (.tuple rows) ∧ Good (.tuple rows) n ∧ n ≤ N ∧ Kn K H kn cs ls hs ∧ Ar K H ar ps ∧ SqT K H pl (place.map V.int) ∧ ps.length ≤ place.length ∧ place.length ≤ 20 ∧ 0 ≤ oft ∧ oft ≤ 10 ∧
  ∀ v H', Same H H' → Res K H' (wrongD cs ls hs n rows place ps oft) v → Q v H'
theorem ok_wrong (T : Tp K w mg) (N : Nat) (hN : N ≤ 64) : ∀ n, FnOk P w K mg base CX0 (n + (N + 4) + 1) T.f_wrong T.fd_wrong ["body", "place", "known", "around", "oftens"] (spWrong K N n) := rec_fn (c := N + 4) (sp := spWrong K N) fun n ih => by
  refine T.D_wrong.F.ok sc_wrong (fun vs H Q E h => ?_) (fun cdv A outer s H vs Q E hr h => ?_)
  · obtain ⟨b, pl, kn, ar, rows, place, cs, ls, hs, ps, oft, rfl, _⟩ := h
    rfl
  · obtain ⟨b, pl, kn, ar, rows, place, cs, ls, hs, ps, oft, rfl, hd, good, hnN, hkn, har, hpl, hps, hp20, o0, o1, q⟩ := h
    refine ⟨_, (pss_cons (ps_for PassesOwn.never rfl (HE.pi_enumT (by rfl) T.enumerate (pa_cons (pv 0) pa_nil)) (pg_tup rfl (pgs_cons (pg_name (i := 5) sc_wrong.nd rfl (.inl rfl)) (pgs_cons (pg_name (i := 6) sc_wrong.nd rfl (.inl rfl)) pgs_nil)))
  (Evl.pss_cut (ps_set (i := 7) sc_wrong.nd rfl (.inl rfl) (pe_op HT2.op_catA (pv 1) (pe_tup (pa_cons (pv 5) pa_nil))))
  (pss_cons (ps_if (PW.pt (pw_or (pt_cmpR op_gt (pe_callB call_len_seq (by rfl) T.len PySem.boot_len (pa_cons (pv 7) pa_nil)) (pe_op op_add (pe_op op_mul pe_int (pe_gi (by rfl) T.c_MOST_DEEP)) pe_int) (nomark _)) (pw_or1 (pt_not (pt_val (pcall T.D_isrow (ok_isrow T N) (hr.mono (by omega)) (by rfl) (pa_cons (pv 6) (pa_cons (pv 2) (pa_cons (pv 3) pa_nil)))))))))
  (pss_one (ps_ret (pv 7)))
  pss_nil)
  (pss_cons (ps_set (i := 8) sc_wrong.nd rfl (.inl rfl) (pe_op op_add (pv 4) (pe_callTy call_int1 (by rfl) T.int (by decide +kernel) (pa_cons (pe_cmpR op_eq (pe_ix ix_tup (pv 6) pe_int (fun _ _ => rfl)) pe_str (nomark _)) pa_nil))))
  (pss_cons (ps_if (pt_cmpR op_gt (pv 8) (pe_op op_add (pe_gi (by rfl) T.c_MOST_OFTEN) pe_int) (nomark _))
  (pss_one (ps_ret (pv 7)))
  pss_nil)
  (pss_one (ps_for PassesOwn.never rfl (pi_enum (by rfl) T.enumerate (pa_cons (pcall T.D_bodies (ok_bodies T) (hr.mono (by omega)) (by rfl) (pa_cons (pv 6) pa_nil)) pa_nil)) (pg_tup rfl (pgs_cons (pg_name (i := 9) sc_wrong.nd rfl (.inl rfl)) (pgs_cons (pg_name (i := 10) sc_wrong.nd rfl (.inl rfl)) pgs_nil)))
  (pss_cons (ps_set (i := 11) sc_wrong.nd rfl (.inl rfl) (pcall T.D_wrong ih (hr.mono (by omega)) (by rfl) (pa_cons (pv 10) (pa_cons (pe_op HT2.op_catA (pv 7) (pe_tup (pa_cons (pv 9) pa_nil))) (pa_cons (pv 2) (pa_cons (pcall T.D_around (ok_around T) (hr.mono (by omega)) (by rfl) (pa_cons (pv 6) (pa_cons (pv 3) pa_nil))) (pa_cons (pv 8) pa_nil)))))))
  (pss_one (ps_if (pt_cmpR op_notN (pv 11) pe_non (nomark _))
  (pss_one (ps_ret (pv 11)))
  pss_nil))))))))))
  (pss_one (ps_ret pe_non))), ?_⟩
    obtain ⟨m, rfl⟩ : ∃ m, n = m + 1 := by
      have := good.dep
      simp only [PyData.depth] at this
      exact ⟨n - 1, by omega⟩
    obtain ⟨b', xs, e, hx, hall⟩ := dp_tup hd
    cases e
    have lx : xs.length = rows.length := dpAll_len hall
    have eW : wrongD cs ls hs (m + 1) rows place ps oft = firstSome (rowF cs ls hs m place ps oft) 0 rows := rfl
    refine ⟨_, rfl, b, xs, rfl, hx, for_it (HE.walk_enumT (xs := xs)) (fun i σ H2 => (∃ y5 y6 y7 y8 y9 y10 y11, σ = [some (.ref b), some (.ref pl), some (.ref kn), some (.ref ar), some (.int oft), y5, y6, y7, y8, y9, y10, y11]) ∧ Same H H2 ∧ firstSome (rowF cs ls hs m place ps oft) i (rows.drop i) = firstSome (rowF cs ls hs m place ps oft) 0 rows) ?_ ?_ ?_ ?_⟩
    · exact ⟨⟨_, _, _, _, _, _, _, rfl⟩, Same.refl H, by rw [List.drop_zero]⟩
    · rintro i σ H2 _ ⟨_, s2, _⟩
      exact s2.sqt hx
    · rintro i x σ H2 H3 hi ⟨⟨y5, y6, y7, y8, y9, y10, y11, rfl⟩, s2, ef⟩ ⟨Tt, x1, x2, rfl, nT, rfl, g1, g2⟩
      cases g1
      dsimp only at g2
      rw [List.getElem?_eq_getElem hi] at g2
      cases g2
      have hi2 : i < rows.length := by omega
      have sT := same_upd (o := .tup [.int (i : Nat), xs[i]]) nT
      refine ⟨Tt, _, rfl, stt upd_same, rfl, _, _, rfl, _, _, rfl, rfl, ?_⟩
      have s3 := s2.trans sT
      generalize upd H2 Tt (.tup [.int (i : Nat), xs[i]]) = H3 at s3 ⊢
      rw [firstSome_at _ hi2] at ef
      have hrow := s3.dp (dpAll_at hall hi hi2)
      have grow : Good rows[i] m := good.item (List.getElem_mem hi2)
      generalize rows[i] = row at ef hrow grow
      generalize xs[i] = xr at hrow ⊢
      refine ⟨fun σ H4 => ∃ (hh : Addr), (∃ y8 y9 y10 y11, σ = [some (.ref b), some (.ref pl), some (.ref kn), some (.ref ar), some (.int oft), some (.int (i : Nat)), some xr, some (.ref hh), y8, y9, y10, y11]) ∧ Same H3 H4 ∧ SqT K H4 hh ((place ++ [(i : Int)]).map V.int), ?_, ?_⟩
      · refine ⟨_, rfl, _, rfl, by show 1 ≤ sizeLine; decide, fun p np => ?_⟩
        have s4 := same_upd (o := .tup [.int (i : Nat)]) np
        have hp : (upd H3 p (.tup [.int (i : Nat)])) p = some (.tup [.int (i : Nat)]) := upd_same
        generalize upd H3 p (.tup [.int (i : Nat)]) = H4 at s4 hp ⊢
        refine ⟨pl, p, _, _, rfl, rfl, (s3.trans s4).sqt hpl, stt hp, by rw [List.length_map]; exact Evl.sz_of (by show place.length + 1 ≤ _; omega), fun e => ?_, (fun _ e => nomatch e), fun _ _ p2 np2 => ?_⟩
        · have e0 : place = [] := by cases place <;> first | rfl | cases e
          subst e0
          exact ⟨p, ⟨_, _, _, _, rfl⟩, s4, stt hp⟩
        · have s5 := same_upd (o := .tup (place.map V.int ++ [.int (i : Nat)])) np2
          exact ⟨p2, ⟨_, _, _, _, rfl⟩, s4.trans s5, stt (by rw [upd_same, List.map_append]; rfl)⟩
      · rintro σ H4 ⟨hh, ⟨y8, y9, y10, y11, rfl⟩, s34, hhh⟩
        have s4 := s3.trans s34
        have hrow4 := s34.dp hrow
        have elen : decide ((2 : Int) * 9 + 1 < (((place ++ [(i : Int)]).map V.int).length : Nat)) = decide (19 < place.length + 1) := by
          rw [List.length_map, List.length_append, List.length_singleton]
          exact decide_eq_decide.mpr (by omega)
        have wrong : ∀ H5, Same H4 H5 → rowF cs ls hs m place ps oft i row = some (place ++ [(i : Int)]) → Q (.ref hh) H5 := fun H5 s5 e => by
          refine q (.ref hh) H5 (s4.trans s5) ?_
          rw [eW, ← ef, e]
          exact ⟨hh, rfl, s5.sqt hhh⟩
        refine ⟨_, rfl, hh, _, rfl, .inr hhh, _, _, rfl, rfl, .inl ⟨by decide, by decide⟩, _, _, rfl, rfl, _, _, rfl, rfl, _, rfl, ?_⟩
        rw [elen]
        refine ite2 (fun h1 => ?_) (fun h1 => ?_)
        · exact ⟨_, rfl, wrong H4 (Same.refl _) (by unfold rowF; rw [if_pos (.inl (of_decide_eq_true h1))])⟩
        have h1 : ¬ 19 < place.length + 1 := fun z => h1 (decide_eq_true z)
        refine ⟨_, rfl, _, rfl, _, rfl, xr, row, kn, ar, cs, ls, hs, ps, rfl, hrow4, grow.ok, grow.shaped (by omega), Nat.le_trans grow.dep (by omega), hkn.same s4, har.same s4, fun H5 s5 => ⟨_, rfl, ?_⟩⟩
        cases er : isRowD cs ls hs ps row with
        | false => exact ite1 rfl ⟨_, rfl, wrong H5 s5 (by unfold rowF; rw [if_pos (.inr er)])⟩
        | true =>
        refine ite0 rfl ?_
        obtain ⟨z, ks, ds, R⟩ := row_ok er
        obtain rfl := R.eq
        obtain ⟨ra, rxs, rfl, rx, rall⟩ := dp_tup (s5.dp hrow4)
        cases rall with
        | cons pz rall =>
        cases pz
        rename_i rxs
        have s45 := s4.trans s5
        have hhh5 := s5.sqt hhh
        refine ⟨_, rfl, _, rfl, _, _, _, _, rfl, rfl, rx, atI_nat (j := 0) rfl, rfl, .inr ⟨_, rfl, _, _, rfl, rfl, ?_⟩⟩
        have eo : (if decide (V.str z = V.str "often") = true then (1 : Int) else 0) = oftD (.tuple (.str z :: ds)) := by
          rw [es_str]
          unfold oftD wordD
          by_cases e : z = "often"
          · rw [if_pos (decide_eq_true e), if_pos e]
          · rw [if_neg (fun h => e (of_decide_eq_true h)), if_neg e]
        rw [eo]
        have oft01 : 0 ≤ oftD (.tuple (.str z :: ds)) ∧ oftD (.tuple (.str z :: ds)) ≤ 1 := by unfold oftD; split <;> decide
        refine ⟨_, rfl, _, _, rfl, rfl, _, _, rfl, rfl, _, rfl, ite2 (fun h2 => ?_) (fun h2 => ?_)⟩
        · have h2 : 3 < oft + oftD (.tuple (.str z :: ds)) := of_decide_eq_true h2
          exact ⟨_, rfl, wrong H5 s5 (by unfold rowF; rw [if_neg (fun h => h.elim h1 (fun e => by rw [er] at e; cases e)), if_pos h2])⟩
        have h2 : ¬ 3 < oft + oftD (.tuple (.str z :: ds)) := fun e => h2 (decide_eq_true e)
        have eF : rowF cs ls hs m place ps oft i (.tuple (.str z :: ds)) = firstSome (fun j b => wrongD cs ls hs m (rowsD b) (place ++ [(i : Int)] ++ [(j : Int)]) (arD (.tuple (.str z :: ds)) ps) (oft + oftD (.tuple (.str z :: ds)))) 0 (bodiesV ks ds) := by
          unfold rowF
          rw [if_neg (fun h => h.elim h1 (fun e => by rw [er] at e; cases e)), if_neg h2]
          have eb : bodiesD (.tuple (.str z :: ds)) = bodiesV ks ds := by
            show (match kindsOf z with | some ks => _ | none => _) = _
            rw [R.ks_]
          rw [eb]
        rw [eF] at ef
        have lr : rxs.length = ds.length := dpAll_len rall
        have lks : ks.length ≤ 3 := kinds_len R.ks_
        refine ⟨_, rfl, ra, z, ks, rxs, rfl, rx, R.ks_, fun lp H6 nlp s6 hlp => ?_⟩
        have hb6 := dpAll_bodies ks (s6.dpAll rall)
        have lb : (bodiesV ks rxs).length = (bodiesV ks ds).length := dpAll_len hb6
        have s46 := s45.trans s6
        have hhh6 := s6.sqt hhh5
        have rx6 := s6.sqt rx
        generalize hg : (fun (j : Nat) (b : PyData) => wrongD cs ls hs m (rowsD b) (place ++ [(i : Int)] ++ [(j : Int)]) (arD (.tuple (.str z :: ds)) ps) (oft + oftD (.tuple (.str z :: ds)))) = g at ef
        refine ⟨lp, bodiesV ks rxs, rfl, sl hlp, for_it (walk_enum (xs := bodiesV ks rxs)) (fun j σ H7 => (∃ y9 y10 y11, σ = [some (.ref b), some (.ref pl), some (.ref kn), some (.ref ar), some (.int oft), some (.int (i : Nat)), some (.ref ra), some (.ref hh), some (.int (oft + oftD (.tuple (.str z :: ds)))), y9, y10, y11]) ∧ Same H6 H7 ∧ firstSome g j ((bodiesV ks ds).drop j) = firstSome g 0 (bodiesV ks ds)) ?_ ?_ ?_ ?_⟩
        · exact ⟨⟨_, _, _, rfl⟩, Same.refl _, by rw [List.drop_zero]⟩
        · rintro j σ H7 _ ⟨_, s7, _⟩
          exact sl (s7 _ _ hlp)
        · rintro j x σ H7 H8 hj ⟨⟨y9, y10, y11, rfl⟩, s7, eg⟩ ⟨T2, x1, x2, rfl, nT2, rfl, g1, g2⟩
          cases g1
          dsimp only at g2
          rw [List.getElem?_eq_getElem hj] at g2
          cases g2
          have hj2 : j < (bodiesV ks ds).length := by omega
          have sT2 := same_upd (o := .tup [.int (j : Nat), (bodiesV ks rxs)[j]]) nT2
          refine ⟨T2, _, rfl, stt upd_same, rfl, _, _, rfl, _, _, rfl, rfl, ?_⟩
          have s78 := s7.trans sT2
          generalize upd H7 T2 (.tup [.int (j : Nat), (bodiesV ks rxs)[j]]) = H8 at s78 ⊢
          have hb8 := s78.dp (dpAll_at hb6 hj hj2)
          have hbm : (bodiesV ks ds)[j] ∈ bodiesV ks ds := List.getElem_mem hj2
          rw [firstSome_at _ hj2] at eg
          have ebt := bodies_parts (P := fun d => d = .tuple (rowsD d)) (fun q hq hk => part_body (by have := R.parts q hq; rw [hk] at this; exact this)) _ hbm
          have gb : Good (bodiesV ks ds)[j] m := by
            obtain ⟨m', hm⟩ : ∃ m', m = m' + 1 := by
              have := grow.dep
              simp only [PyData.depth] at this
              exact ⟨m - 1, by omega⟩
            subst hm
            exact (grow.item (List.mem_cons_of_mem _ (bodiesV_mem hbm))).mono (by omega)
          generalize (bodiesV ks ds)[j] = b0 at hb8 eg ebt gb
          generalize (bodiesV ks rxs)[j] = vb at hb8 ⊢
          obtain ⟨rb, erb⟩ : ∃ rb, rb = rowsD b0 := ⟨_, rfl⟩
          rw [← erb] at ebt
          subst ebt
          obtain ⟨bb, bxs, rfl, _, _⟩ := dp_tup (id hb8)
          have hps' := s46.trans s78
          have ao := around_ok R rall
          refine ⟨_, rfl, _, rfl, _, rfl, by show 1 ≤ sizeLine; decide, fun p np => ?_⟩
          have s9 := same_upd (o := .tup [.int (j : Nat)]) np
          have hp9 : (upd H8 p (.tup [.int (j : Nat)])) p = some (.tup [.int (j : Nat)]) := upd_same
          generalize upd H8 p (.tup [.int (j : Nat)]) = H9 at s9 hp9 ⊢
          refine ⟨hh, p, _, _, rfl, rfl, (s78.trans s9).sqt hhh6, stt hp9, by rw [List.length_map, List.length_append, List.length_singleton]; exact Evl.sz_of (by show place.length + 1 + 1 ≤ _; omega), (fun e => by simp at e), (fun _ e => nomatch e), fun _ _ p2 np2 => ?_⟩
          have s10 := same_upd (o := .tup ((place ++ [(i : Int)]).map V.int ++ [.int (j : Nat)])) np2
          have hp10 : SqT K (upd H9 p2 (.tup ((place ++ [(i : Int)]).map V.int ++ [.int (j : Nat)]))) p2 ((place ++ [(i : Int)] ++ [(j : Int)]).map V.int) := stt (by rw [upd_same, List.map_append (l₁ := place ++ [(i : Int)])]; rfl)
          generalize upd H9 p2 (.tup ((place ++ [(i : Int)]).map V.int ++ [.int (j : Nat)])) = H10 at s10 hp10 ⊢
          have s810 := s9.trans s10
          have sA := hps'.trans s810
          refine ⟨_, rfl, _, rfl, _, rfl, ra, ar, V.str z :: rxs, z, homeD (.tuple (.str z :: ds)), lastD (.tuple (.str z :: ds)), ps, rfl, (s78.trans s810).sqt rx6, rfl, har.same sA, by omega, ao.1, ao.2, fun ar' H11 s11 har' => ?_⟩
          have la := around_len z (homeD (.tuple (.str z :: ds))) (lastD (.tuple (.str z :: ds))) ps
          refine ⟨_, rfl, bb, p2, kn, ar', rb, _, cs, ls, hs, _, _, rfl, (s810.trans s11).dp hb8, gb, by omega, hkn.same (sA.trans s11), har', s11.sqt hp10, by rw [List.length_append, List.length_append, List.length_singleton, List.length_singleton]; omega, by rw [List.length_append, List.length_append, List.length_singleton, List.length_singleton]; omega, by omega, by omega, fun v H12 s12 hres => ?_⟩
          have egj : g j (.tuple rb) = wrongD cs ls hs m rb (place ++ [(i : Int)] ++ [(j : Int)]) (aroundP z (homeD (.tuple (.str z :: ds))) (lastD (.tuple (.str z :: ds))) ps) (oft + oftD (.tuple (.str z :: ds))) := by
            rw [← hg]
            dsimp only
            rw [← erb]
            rfl
          rw [← egj] at hres
          have sB := (s810.trans s11).trans s12
          refine ⟨_, rfl, rfl, _, rfl, ?_⟩
          generalize g j (.tuple rb) = r at eg hres
          cases r with
          | none =>
            cases hres
            refine ite0 rfl ?_
            exact ⟨⟨_, _, _, rfl⟩, s78.trans sB, eg⟩
          | some pp =>
            obtain ⟨t, rfl, ht⟩ := hres
            refine ite1 rfl ⟨_, rfl, ?_⟩
            refine q _ H12 (hps'.trans sB) ?_
            rw [eW, ← ef, ← eg]
            exact ⟨t, rfl, ht⟩
        · rintro σ H7 ⟨⟨y9, y10, y11, rfl⟩, s7, eg⟩
          rw [List.drop_of_length_le (by omega)] at eg
          rw [← eg] at ef
          exact ⟨⟨_, _, _, _, _, _, _, rfl⟩, s46.trans s7, ef⟩
    · rintro σ H2 ⟨⟨y5, y6, y7, y8, y9, y10, y11, rfl⟩, s2, ef⟩
      refine q .non H2 s2 ?_
      rw [eW, ← ef, List.drop_of_length_le (by omega)]
      rfl
end
end T06
namespace T06
open PySem PySem.Spec PyProof.Rows L2 HX HB HG HU HH HD HS
def flatF {α β : Type} (f : Nat → α → List β) : Nat → List α → List β
  | _, [] => []
  | i, x :: xs => f i x ++ flatF f (i + 1) xs
def placesD : Nat → List PyData → List Int → List (List Int)
  | 0, _, _ => []
  | n + 1, rows, place => flatF (fun i row => (place ++ [(i : Int)]) :: flatF (fun j b => placesD n (rowsD b) (place ++ [(i : Int)] ++ [(j : Int)])) 0 (bodiesD row)) 0 rows
theorem flatF_at {α β : Type} (f : Nat → α → List β) {xs : List α} {i : Nat} (h : i < xs.length) : flatF f i (xs.drop i) = f i xs[i] ++ flatF f (i + 1) (xs.drop (i + 1)) := by
  rw [List.drop_eq_getElem_cons h]
  rfl
theorem firstSome_none {α β : Type} {f : Nat → α → Option β} : ∀ {xs : List α} {i : Nat}, firstSome f i xs = none → ∀ k (h : k < xs.length), f (i + k) xs[k] = none
  | [], _, _, k, h => by cases h
  | x :: xs, i, e, k, h => by
    simp only [firstSome] at e
    cases ef : f i x with
    | some b => rw [ef] at e; cases e
    | none =>
      rw [ef] at e
      cases k with
      | zero => exact ef
      | succ k =>
        have := firstSome_none e k (by simpa using h)
        rw [show i + (k + 1) = i + 1 + k by omega]
        exact this
theorem rowF_none {cs ls hs : List Str} {n : Nat} {place : List Int} {ps : List (Str × Str)} {oft : Int} {i : Nat} {row : PyData} (h : rowF cs ls hs n place ps oft i row = none) : isRowD cs ls hs ps row = true ∧ place.length + 1 ≤ 19 ∧
    firstSome (fun j b => wrongD cs ls hs n (rowsD b) (place ++ [(i : Int)] ++ [(j : Int)]) (arD row ps) (oft + oftD row)) 0 (bodiesD row) = none := by
  unfold rowF at h
  split at h
  · cases h
  · rename_i h1
    split at h
    · cases h
    · refine ⟨?_, ?_, h⟩
      · cases e : isRowD cs ls hs ps row with
        | true => rfl
        | false => exact absurd (.inr e) h1
      · have : ¬ 19 < place.length + 1 := fun e => h1 (.inl e)
        omega
theorem sqt_set {K : PySem.W.Frag} {H : Hp} {t l : Addr} {xs ys zs : List V} (h : SqT K H t xs) (e : H l = some (.lst ys)) : SqT K (upd H l (.lst zs)) t xs := by
  rcases h with (h | ⟨o, h⟩) | h
  · exact .inl (.inl (by rw [upd_ne (fun q => by subst q; rw [e] at h; cases h)]; exact h))
  · exact .inl (.inr ⟨o, by rw [upd_ne (fun q => by subst q; rw [e] at h; cases h)]; exact h⟩)
  · exact .inr h
section
variable {P : Program} {w : World} {K : PySem.W.Frag} {mg : Str → Option Value} {base : Heap}
def PL (K : PySem.W.Frag) (H : Hp) (vs : List V) (ps : List (List Int)) : Prop := Paired (fun v p => ∃ t : Addr, v = .ref t ∧ SqT K H t (p.map V.int)) vs ps
theorem PL.same {K : PySem.W.Frag} {H H' : Hp} {vs : List V} {ps : List (List Int)} (h : PL K H vs ps) (s : Same H H') : PL K H' vs ps := paired_imp (fun _ _ ⟨t, e, h⟩ => ⟨t, e, s.sqt h⟩) h
theorem PL.set {K : PySem.W.Frag} {H : Hp} {vs : List V} {ps : List (List Int)} {l : Addr} {ys zs : List V} (h : PL K H vs ps) (e : H l = some (.lst ys)) : PL K (upd H l (.lst zs)) vs ps := paired_imp (fun _ _ ⟨t, e1, h⟩ => ⟨t, e1, sqt_set h e⟩) h
theorem paired_app {α β : Type} {F : α → β → Prop} : ∀ {l : List α} {m : List β} {l2 : List α} {m2 : List β}, Paired F l m → Paired F l2 m2 → Paired F (l ++ l2) (m ++ m2)
  | _, _, _, _, .nil, h => h
  | _, _, _, _, .cons x t, h => .cons x (paired_app t h)
theorem paired_len {α β : Type} {F : α → β → Prop} : ∀ {l : List α} {m : List β}, Paired F l m → l.length = m.length
  | _, _, .nil => rfl
  | _, _, .cons x t => by rw [List.length_cons, List.length_cons, paired_len t]
def spPlaces (K : PySem.W.Frag) (N n : Nat) : Sp := fun vs H Q _ => ∃ (b pl : Addr) (rows : List PyData) (place : List Int) (cs ls hs : List Str) (ps : List (Str × Str)) (oft : Int), vs = [.ref b, .ref pl] ∧
  Dp K H (.ref b) (.tuple rows) ∧ Good (.tuple rows) n ∧ n ≤ N ∧ SqT K H pl (place.map V.int) ∧ place.length ≤ 20 ∧ wrongD cs ls hs n rows place ps oft = none ∧ (placesD n rows place).length ≤ sizeLine ∧
  ∀ (l : Addr) H' vs, Same H H' → H' l = some (.lst vs) → H l = none → PL K H' vs (placesD n rows place) → Q (.ref l) H'
theorem ok_places (T : Tp K w mg) (N : Nat) (hN : N ≤ 64) : ∀ n, FnOk P w K mg base CX0 (n + 2 + 1) T.f_places T.fd_places ["body", "place"] (spPlaces K N n) := rec_fn (c := 2) (sp := spPlaces K N) fun n ih => by
  refine T.D_places.F.ok sc_places (fun vs H Q E h => ?_) (fun cdv A outer s H vs Q E hr h => ?_)
  · obtain ⟨b, pl, rows, place, cs, ls, hs, ps, oft, rfl, _⟩ := h
    rfl
  · obtain ⟨b, pl, rows, place, cs, ls, hs, ps, oft, rfl, hd, good, hnN, hpl, hp20, hno, hsz, q⟩ := h
    refine ⟨_, (pss_cons (ps_set (i := 2) sc_places.nd rfl (.inl rfl) (pe_lst pa_nil))
  (pss_cons (ps_for PassesOwn.never rfl (HE.pi_enumT (by rfl) T.enumerate (pa_cons (pv 0) pa_nil)) (pg_tup rfl (pgs_cons (pg_name (i := 3) sc_places.nd rfl (.inl rfl)) (pgs_cons (pg_name (i := 4) sc_places.nd rfl (.inl rfl)) pgs_nil)))
  (Evl.pss_cut (ps_set (i := 5) sc_places.nd rfl (.inl rfl) (pe_op HT2.op_catA (pv 1) (pe_tup (pa_cons (pv 3) pa_nil))))
  (pss_cons (ps_expr (pe_bm PySem.F.plainAttrs_list PySem.F.slot_list_append PySem.F.type_list_append mt_append (pv 2) (pa_cons (pv 5) pa_nil)))
  (pss_one (ps_for PassesOwn.never rfl (pi_enum (by rfl) T.enumerate (pa_cons (pcall T.D_bodies (ok_bodies T) (hr.mono (by omega)) (by rfl) (pa_cons (pv 4) pa_nil)) pa_nil)) (pg_tup rfl (pgs_cons (pg_name (i := 6) sc_places.nd rfl (.inl rfl)) (pgs_cons (pg_name (i := 7) sc_places.nd rfl (.inl rfl)) pgs_nil)))
  (pss_one (ps_expr (pe_bm PySem.F.plainAttrs_list PySem.F.slot_list_extend PySem.F.type_list_extend mt_extend (pv 2) (pa_cons (pcall T.D_places ih (hr.mono (by omega)) (by rfl) (pa_cons (pv 7) (pa_cons (pe_op HT2.op_catA (pv 5) (pe_tup (pa_cons (pv 6) pa_nil))) pa_nil))) pa_nil)))))))))
  (pss_one (ps_ret (pv 2))))), ?_⟩
    obtain ⟨m, rfl⟩ : ∃ m, n = m + 1 := by
      have := good.dep
      simp only [PyData.depth] at this
      exact ⟨n - 1, by omega⟩
    obtain ⟨b', xs, e, hx, hall⟩ := dp_tup hd
    cases e
    have lx : xs.length = rows.length := dpAll_len hall
    have eW : wrongD cs ls hs (m + 1) rows place ps oft = firstSome (rowF cs ls hs m place ps oft) 0 rows := rfl
    rw [eW] at hno
    have hno := firstSome_none hno
    generalize hF : (fun (i : Nat) (row : PyData) => (place ++ [(i : Int)]) :: flatF (fun j b => placesD m (rowsD b) (place ++ [(i : Int)] ++ [(j : Int)])) 0 (bodiesD row)) = F
    have eP : placesD (m + 1) rows place = flatF F 0 rows := by rw [← hF]; rfl
    rw [eP] at hsz q
    refine ⟨Nat.zero_le _, fun l nl => ⟨_, rfl, b, xs, rfl, (same_upd nl).sqt hx, for_it (HE.walk_enumT (xs := xs)) (fun i σ H2 => (∃ y3 y4 y5 y6 y7, σ = [some (.ref b), some (.ref pl), some (.ref l), y3, y4, y5, y6, y7]) ∧ Same H H2 ∧ ∃ vs acc, H2 l = some (.lst vs) ∧ PL K H2 vs acc ∧ acc ++ flatF F i (rows.drop i) = flatF F 0 rows) ?_ ?_ ?_ ?_⟩⟩
    · exact ⟨⟨_, _, _, _, _, rfl⟩, same_upd nl, [], [], upd_same, .nil, by rw [List.drop_zero]; rfl⟩
    · rintro i σ H2 _ ⟨_, s2, _⟩
      exact s2.sqt hx
    · rintro i x σ H2 H3 hi ⟨⟨y3, y4, y5, y6, y7, rfl⟩, s2, fs, acc, hl2, hpl2, ef⟩ ⟨Tt, x1, x2, rfl, nT, rfl, g1, g2⟩
      cases g1
      dsimp only at g2
      rw [List.getElem?_eq_getElem hi] at g2
      cases g2
      have hi2 : i < rows.length := by omega
      have sT := same_upd (o := .tup [.int (i : Nat), xs[i]]) nT
      refine ⟨Tt, _, rfl, stt upd_same, rfl, _, _, rfl, _, _, rfl, rfl, ?_⟩
      have hl3 := sT _ _ hl2
      have hpl3 := hpl2.same sT
      have s3 := s2.trans sT
      generalize upd H2 Tt (.tup [.int (i : Nat), xs[i]]) = H3 at s3 hl3 hpl3 ⊢
      rw [flatF_at _ hi2] at ef
      have hni := hno i hi2
      rw [Nat.zero_add] at hni
      obtain ⟨er, hlen, hno2⟩ := rowF_none hni
      have hrow := dpAll_at hall hi hi2
      have grow : Good rows[i] m := good.item (List.getElem_mem hi2)
      generalize rows[i] = row at ef hrow grow er hno2
      generalize xs[i] = xr at hrow ⊢
      obtain ⟨z, ks, ds, R⟩ := row_ok er
      obtain rfl := R.eq
      obtain ⟨ra, rxs, rfl, rx, rall⟩ := dp_tup hrow
      cases rall with
      | cons pz rall =>
      cases pz
      rename_i rxs
      have eb : bodiesD (.tuple (.str z :: ds)) = bodiesV ks ds := by
        show (match kindsOf z with | some ks => _ | none => _) = _
        rw [R.ks_]
      have eF : F i (.tuple (.str z :: ds)) = (place ++ [(i : Int)]) :: flatF (fun j b => placesD m (rowsD b) (place ++ [(i : Int)] ++ [(j : Int)])) 0 (bodiesV ks ds) := by
        rw [← hF]
        dsimp only
        rw [eb]
      rw [eF] at ef
      rw [eb] at hno2
      have hno2 := firstSome_none hno2
      generalize hg : (fun (j : Nat) (b : PyData) => placesD m (rowsD b) (place ++ [(i : Int)] ++ [(j : Int)])) = g at ef
      refine ⟨fun σ H4 => ∃ (hh : Addr), (∃ y6 y7, σ = [some (.ref b), some (.ref pl), some (.ref l), some (.int (i : Nat)), some (.ref ra), some (.ref hh), y6, y7]) ∧ Same H3 H4 ∧ SqT K H4 hh ((place ++ [(i : Int)]).map V.int), ?_, ?_⟩
      · refine ⟨_, rfl, _, rfl, by show 1 ≤ sizeLine; decide, fun p np => ?_⟩
        have s4 := same_upd (o := .tup [.int (i : Nat)]) np
        have hp : (upd H3 p (.tup [.int (i : Nat)])) p = some (.tup [.int (i : Nat)]) := upd_same
        generalize upd H3 p (.tup [.int (i : Nat)]) = H4 at s4 hp ⊢
        refine ⟨pl, p, _, _, rfl, rfl, (s3.trans s4).sqt hpl, stt hp, by rw [List.length_map]; exact Evl.sz_of (by show place.length + 1 ≤ _; omega), fun e => ?_, (fun _ e => nomatch e), fun _ _ p2 np2 => ?_⟩
        · have e0 : place = [] := by cases place <;> first | rfl | cases e
          subst e0
          exact ⟨p, ⟨_, _, rfl⟩, s4, stt hp⟩
        · have s5 := same_upd (o := .tup (place.map V.int ++ [.int (i : Nat)])) np2
          exact ⟨p2, ⟨_, _, rfl⟩, s4.trans s5, stt (by rw [upd_same, List.map_append]; rfl)⟩
      rintro σ H4 ⟨hh, ⟨y6, y7, rfl⟩, s34, hhh⟩
      have hl4 := s34 _ _ hl3
      have hpl4 := hpl3.same s34
      have s4 := s3.trans s34
      have lfs : fs.length = acc.length := paired_len hpl3
      have hn4 : Same H (upd H4 l (.lst (fs ++ [.ref hh]))) := s4.own nl
      refine ⟨_, rfl, .inl ⟨rfl, _, sl hl4⟩, _, rfl, l, fs, .ref hh, rfl, rfl, hl4, ?_, ?_⟩
      · rw [lfs]
        refine Nat.lt_of_lt_of_le ?_ hsz
        rw [← ef, List.length_append, List.length_append, List.length_cons]
        omega
      have hl5 : (upd H4 l (.lst (fs ++ [.ref hh]))) l = some (.lst (fs ++ [.ref hh])) := upd_same
      have hpl5 : PL K (upd H4 l (.lst (fs ++ [.ref hh]))) (fs ++ [.ref hh]) (acc ++ [place ++ [(i : Int)]]) := paired_app (hpl4.set hl4) (.cons ⟨hh, rfl, sqt_set hhh hl4⟩ .nil)
      have hhh5 : SqT K (upd H4 l (.lst (fs ++ [.ref hh]))) hh ((place ++ [(i : Int)]).map V.int) := sqt_set hhh hl4
      generalize upd H4 l (.lst (fs ++ [.ref hh])) = H5 at hn4 hl5 hpl5 hhh5 ⊢
      refine ⟨_, rfl, ra, z, ks, rxs, rfl, hn4.sqt rx, R.ks_, fun lp H6 nlp s6 hlp => ?_⟩
      have s06 := hn4.trans s6
      have hb6 := dpAll_bodies ks rall
      have lb : (bodiesV ks rxs).length = (bodiesV ks ds).length := dpAll_len hb6
      have nll : l ≠ lp := fun e => by subst e; rw [hl5] at nlp; cases nlp
      refine ⟨lp, bodiesV ks rxs, rfl, sl hlp, for_it (walk_enum (xs := bodiesV ks rxs)) (fun j σ H7 => (∃ y6 y7, σ = [some (.ref b), some (.ref pl), some (.ref l), some (.int (i : Nat)), some (.ref ra), some (.ref hh), y6, y7]) ∧ Same H H7 ∧ H7 lp = some (.lst (bodiesV ks rxs)) ∧ SqT K H7 hh ((place ++ [(i : Int)]).map V.int) ∧ ∃ vs acc2, H7 l = some (.lst vs) ∧ PL K H7 vs acc2 ∧ acc2 ++ flatF g j ((bodiesV ks ds).drop j) = acc ++ (place ++ [(i : Int)]) :: flatF g 0 (bodiesV ks ds)) ?_ ?_ ?_ ?_⟩
      · exact ⟨⟨_, _, rfl⟩, s06, hlp, s6.sqt hhh5, _, _, s6 _ _ hl5, hpl5.same s6, by rw [List.drop_zero, List.append_assoc]; rfl⟩
      · rintro j σ H7 _ ⟨_, _, h7, _⟩
        exact sl h7
      · rintro j x σ H7 H8 hj ⟨⟨y6, y7, rfl⟩, s7, hlp7, hhh7, fs7, acc7, hl7, hpl7, ef7⟩ ⟨T2, x1, x2, rfl, nT2, rfl, g1, g2⟩
        cases g1
        dsimp only at g2
        rw [List.getElem?_eq_getElem hj] at g2
        cases g2
        have hj2 : j < (bodiesV ks ds).length := by omega
        have sT2 := same_upd (o := .tup [.int (j : Nat), (bodiesV ks rxs)[j]]) nT2
        refine ⟨T2, _, rfl, stt upd_same, rfl, _, _, rfl, _, _, rfl, rfl, ?_⟩
        rw [flatF_at _ hj2] at ef7
        have hl8 := sT2 _ _ hl7
        have hlp8 := sT2 _ _ hlp7
        have hpl8 := hpl7.same sT2
        have hhh8 := sT2.sqt hhh7
        have s8 := s7.trans sT2
        generalize upd H7 T2 (.tup [.int (j : Nat), (bodiesV ks rxs)[j]]) = H8 at s8 hl8 hlp8 hpl8 hhh8 ⊢
        have hbm : (bodiesV ks ds)[j] ∈ bodiesV ks ds := List.getElem_mem hj2
        have ebt := bodies_parts (P := fun d => d = .tuple (rowsD d)) (fun q hq hk => part_body (by have := R.parts q hq; rw [hk] at this; exact this)) _ hbm
        have gb : Good (bodiesV ks ds)[j] m := by
          obtain ⟨m', hm⟩ : ∃ m', m = m' + 1 := by
            have := grow.dep
            simp only [PyData.depth] at this
            exact ⟨m - 1, by omega⟩
          subst hm
          exact (grow.item (List.mem_cons_of_mem _ (bodiesV_mem hbm))).mono (by omega)
        have hb8 := dpAll_at hb6 hj hj2
        have hnj := hno2 j hj2
        rw [Nat.zero_add] at hnj
        have egj : g j (bodiesV ks ds)[j] = placesD m (rowsD (bodiesV ks ds)[j]) (place ++ [(i : Int)] ++ [(j : Int)]) := by rw [← hg]
        rw [egj] at ef7
        generalize (bodiesV ks ds)[j] = b0 at hb8 ef7 ebt gb hnj
        generalize (bodiesV ks rxs)[j] = vb at hb8 ⊢
        generalize rowsD b0 = rb at ebt hnj ef7
        subst ebt
        obtain ⟨bb, bxs, rfl, _, _⟩ := dp_tup (id hb8)
        refine ⟨_, rfl, .inl ⟨rfl, _, sl hl8⟩, _, rfl, _, rfl, _, rfl, by show 1 ≤ sizeLine; decide, fun p np => ?_⟩
        have s9 := same_upd (o := .tup [.int (j : Nat)]) np
        have hp9 : (upd H8 p (.tup [.int (j : Nat)])) p = some (.tup [.int (j : Nat)]) := upd_same
        generalize upd H8 p (.tup [.int (j : Nat)]) = H9 at s9 hp9 ⊢
        refine ⟨hh, p, _, _, rfl, rfl, s9.sqt hhh8, stt hp9, by rw [List.length_map, List.length_append, List.length_singleton]; exact Evl.sz_of (by show place.length + 1 + 1 ≤ _; omega), (fun e => by simp at e), (fun _ e => nomatch e), fun _ _ p2 np2 => ?_⟩
        have s10 := same_upd (o := .tup ((place ++ [(i : Int)]).map V.int ++ [.int (j : Nat)])) np2
        have hp10 : SqT K (upd H9 p2 (.tup ((place ++ [(i : Int)]).map V.int ++ [.int (j : Nat)]))) p2 ((place ++ [(i : Int)] ++ [(j : Int)]).map V.int) := stt (by rw [upd_same, List.map_append (l₁ := place ++ [(i : Int)])]; rfl)
        generalize upd H9 p2 (.tup ((place ++ [(i : Int)]).map V.int ++ [.int (j : Nat)])) = H10 at s10 hp10 ⊢
        have s810 := s9.trans s10
        have sA := s8.trans s810
        have hlen7 : acc7.length + (placesD m rb (place ++ [(i : Int)] ++ [(j : Int)])).length ≤ sizeLine := by
          refine Nat.le_trans ?_ hsz
          rw [← ef]
          have := congrArg List.length ef7
          simp only [List.length_append, List.length_cons] at this ⊢
          omega
        refine ⟨bb, p2, rb, _, cs, ls, hs, _, _, rfl, sA.dp hb8, gb, by omega, hp10, by rw [List.length_append, List.length_append, List.length_singleton, List.length_singleton]; omega, hnj, by omega, fun lr H11 vs s11 hlr nlr hplr => ?_⟩
        have hl11 := s11 _ _ (s810 _ _ hl8)
        have nlr2 : lr ≠ l := fun e => by subst e; rw [s810 _ _ hl8] at nlr; cases nlr
        have s811 := s810.trans s11
        refine ⟨l, lr, fs7, vs, rfl, rfl, hl11, hlr, ?_, ?_⟩
        · rw [paired_len hpl8, paired_len hplr]
          exact hlen7
        refine ⟨⟨_, _, rfl⟩, (s8.trans s811).own nl, ?_, sqt_set (s811.sqt hhh8) hl11, _, acc7 ++ placesD m rb (place ++ [(i : Int)] ++ [(j : Int)]), upd_same, paired_app ((hpl8.same s811).set hl11) (hplr.set hl11), ?_⟩
        · rw [upd_ne (fun e => nll e.symm)]
          exact s811 _ _ hlp8
        · rw [List.append_assoc]
          exact ef7
      · rintro σ H7 ⟨⟨y6, y7, rfl⟩, s7, hlp7, hhh7, fs7, acc7, hl7, hpl7, ef7⟩
        rw [List.drop_of_length_le (by omega)] at ef7
        refine ⟨⟨_, _, _, _, _, rfl⟩, s7, fs7, acc7, hl7, hpl7, ?_⟩
        rw [show acc7 = acc7 ++ flatF g (bodiesV ks rxs).length [] from (List.append_nil _).symm, ef7, ← ef, List.append_assoc]
    · rintro σ H2 ⟨⟨y3, y4, y5, y6, y7, rfl⟩, s2, fs, acc, hl2, hpl2, ef⟩
      rw [List.drop_of_length_le (by omega)] at ef
      refine ⟨_, rfl, q l H2 fs s2 hl2 nl ?_⟩
      rw [← ef]
      exact (List.append_nil acc).symm ▸ hpl2
end
end T06
namespace T06
open PySem PySem.Spec PyProof.Rows L2 HX HB HG HU HH HD HS
section
variable {P : Program} {w : World} {K : PySem.W.Frag} {mg : Str → Option Value} {base : Heap}
def firstD (cs ls hs : List Str) (n : Nat) : PyData → Option (List Int)
  | .tuple rows => wrongD cs ls hs n rows [] [] 0
  | _ => some []
theorem merge3 (x y z : V) : mergeK [] [((Sum.inr "cell" : Key), x), (Sum.inr "lock", y), (Sum.inr "channel", z)] = ([(Sum.inr "cell", x), (Sum.inr "lock", y), (Sum.inr "channel", z)] : List (Key × V)) := rfl
def spFirst (K : PySem.W.Frag) (N : Nat) : Sp := fun vs H Q _ => ∃ (v : V) (d : PyData) (c l h : Addr) (cs ls hs : List Str), vs = [v, .ref c, .ref l, .ref h] ∧
  Dp K H v d ∧ Good d N ∧ SqT K H c (cs.map V.str) ∧ SqT K H l (ls.map V.str) ∧ SqT K H h (hs.map V.str) ∧
  ∀ v H', Same H H' → Res K H' (firstD cs ls hs N d) v → Q v H'
theorem ok_first (T : Tp K w mg) (N : Nat) (hN : N ≤ 64) : FnOk P w K mg base CX0 (N + (N + 4) + 2) T.f_first T.fd_first ["body", "cells", "locks", "channels"] (spFirst K N) := by
  refine T.D_first.ok sc_first (fun vs H Q E h => ?_) (fun cdv A outer s H vs Q E hr h => ?_)
  · obtain ⟨v, d, c, l, h, cs, ls, hs, rfl, _⟩ := h
    rfl
  · obtain ⟨v, d, c, l, h, cs, ls, hs, rfl, hd, good, hc, hl, hh, q⟩ := h
    refine ⟨_, (pss_cons (ps_if (pt_not (pt_val (pe_callB call_isi (by rfl) T.isinstance (by decide +kernel) (pa_cons (pv 0) (pa_cons (pe_bltn (v := .ty "tuple") (by rfl) T.tuple (by decide +kernel) rfl) pa_nil)))))
  (pss_one (ps_ret (pe_tup pa_nil)))
  pss_nil)
  (pss_one (ps_ret (pcall T.D_wrong (ok_wrong T N hN N) (hr.mono (by omega)) (by rfl) (pa_cons (pv 0) (pa_cons (pe_tup pa_nil) (pa_cons (pe_disp (pps_cons pe_str (pv 1) (pps_cons pe_str (pv 2) (pps_cons pe_str (pv 3) pps_nil))) (by rfl) (by rfl) (fun z => by cases z) (by decide)) (pa_cons (pe_tup pa_nil) (pa_cons pe_int pa_nil))))))))), ?_⟩
    obtain ⟨ty, kin⟩ := dp_ty hd
    refine ⟨_, rfl, _, _, _, _, _, rfl, .ty "tuple", ty, kit_dat (by decide) kin, _, rfl, ?_⟩
    by_cases ht : kindD d = "tuple"
    · refine ite0 (by rw [decide_eq_true ht]; rfl) ?_
      obtain ⟨ds, rfl⟩ : ∃ ds, d = .tuple ds := by cases d <;> simp [kindD] at ht ⊢
      obtain ⟨a, xs, rfl, hx, hall⟩ := dp_tup hd
      refine ⟨_, rfl, Nat.zero_le _, fun p np => ?_⟩
      have s1 := same_upd (o := .tup []) np
      have hp : (upd H p (.tup [])) p = some (.tup []) := upd_same
      generalize upd H p (.tup []) = H1 at s1 hp ⊢
      intro kd nkd
      have s2 := s1.trans (same_upd (o := .dK []) nkd)
      have hp2 := (same_upd (o := .dK []) nkd) _ _ hp
      have hkd : (upd H1 kd (.dK [])) kd = some (.dK []) := upd_same
      generalize hH2 : upd H1 kd (.dK []) = H2 at s2 hp2 hkd ⊢
      have nkH : H kd = none := s1.free nkd
      refine ⟨_, rfl, _, rfl, _, rfl, hkd, [(Sum.inr "cell", .ref c), (Sum.inr "lock", .ref l), (Sum.inr "channel", .ref h)], rfl, by show 3 ≤ 15; decide, ?_⟩
      have s3 : Same H (upd H2 kd (.dK [(Sum.inr "cell", .ref c), (Sum.inr "lock", .ref l), (Sum.inr "channel", .ref h)])) := s2.own nkH
      have hk3 : (upd H2 kd (.dK [(Sum.inr "cell", .ref c), (Sum.inr "lock", .ref l), (Sum.inr "channel", .ref h)])) kd = some (.dK [(Sum.inr "cell", .ref c), (Sum.inr "lock", .ref l), (Sum.inr "channel", .ref h)]) := upd_same
      have hp3 : (upd H2 kd (.dK [(Sum.inr "cell", .ref c), (Sum.inr "lock", .ref l), (Sum.inr "channel", .ref h)])) p = some (.tup []) := by rw [upd_ne (fun e => by subst e; rw [hkd] at hp2; cases hp2)]; exact hp2
      rw [merge3]
      generalize upd H2 kd (.dK [(Sum.inr "cell", .ref c), (Sum.inr "lock", .ref l), (Sum.inr "channel", .ref h)]) = H3 at s3 hk3 hp3 ⊢
      refine ⟨Nat.zero_le _, fun p2 np2 => ?_⟩
      have s34 := same_upd (o := .tup []) np2
      have hp24 : (upd H3 p2 (.tup [])) p2 = some (.tup []) := upd_same
      generalize upd H3 p2 (.tup []) = H4 at s34 hp24 ⊢
      have s4 := s3.trans s34
      refine ⟨a, p, kd, p2, ds, [], cs, ls, hs, [], 0, rfl, s4.dp hd, good, Nat.le_refl _, ⟨c, l, h, s34 _ _ hk3, s4.sqt hc, s4.sqt hl, s4.sqt hh⟩, ⟨⟨[], stt hp24, .nil⟩, Nat.zero_le _⟩, s34.sqt (stt hp3), Nat.zero_le _, Nat.zero_le _, by decide, by decide, fun v H5 s5 hr => q v H5 (s4.trans s5) hr⟩
    · refine ite1 (by rw [decide_eq_false ht]; rfl) ?_
      refine ⟨Nat.zero_le _, fun p np => q _ _ (same_upd np) ?_⟩
      have e : firstD cs ls hs N d = some [] := by cases d <;> first | rfl | exact absurd rfl ht
      rw [e]
      exact ⟨p, rfl, stt upd_same⟩
end
end T06
namespace T06
open PySem PySem.Spec PyProof.Rows L2 HX HB HG HU HH HD HS
section
variable {P : Program} {w : World} {K : PySem.W.Frag} {mg : Str → Option Value} {base : Heap}
def sizesD (l u : Int) (kvs : List (Str × Int)) : Bool := decide (kvs.length ≤ 4) && kvs.all fun q => isNameL q.1 && decide (l ≤ q.2 ∧ q.2 ≤ u)
def spSizes (K : PySem.W.Frag) : Sp := fun vs H Q _ => ∃ (a : Addr) (kvs : List (Str × Int)) (l u : Int), vs = [.ref a, .int l, .int u] ∧
  H a = some (.dK (kvs.map fun q => (Sum.inr q.1, V.int q.2))) ∧ (kvs.map (·.1)).Nodup ∧ kvs.length ≤ 100 ∧ (∀ q ∈ kvs, okD (.str q.1) = true ∧ okD (.int q.2) = true) ∧
  ∀ H', Same H H' → Q (.bl (sizesD l u kvs)) H'
theorem ok_sizes (T : Tp K w mg) : FnOk P w K mg base CX0 3 T.f_sizes T.fd_sizes ["thing", "least", "most"] (spSizes K) := by
  refine T.D_sizes.F.ok sc_sizes (fun vs H Q E h => ?_) (fun cdv A outer s H vs Q E hr h => ?_)
  · obtain ⟨a, kvs, l, u, rfl, _⟩ := h
    rfl
  · obtain ⟨a, kvs, l, u, rfl, ha, hnd, hz, hok, q⟩ := h
    refine ⟨_, (pss_cons (ps_if (PW.pt (pw_or (pt_not (pt_val (pe_callB call_isi (by rfl) T.isinstance (by decide +kernel) (pa_cons (pv 0) (pa_cons (pe_bltn (v := .ty "dict") (by rfl) T.dict (by decide +kernel) rfl) pa_nil))))) (pw_or1 (pt_cmpR op_gt (pe_callB call_lenD (by rfl) T.len PySem.boot_len (pa_cons (pv 0) pa_nil)) (pe_gi (by rfl) T.c_MOST_NAMES) (nomark _)))))
  (pss_one (ps_ret pe_bl))
  pss_nil)
  (pss_one (ps_ret (pe_callB (cr_all rfl) (by rfl) T.all (by decide +kernel) (pa_cons (pe_lock (pe_lc (own := [("name", 3), ("size", 4)]) (g := gTup K 2 (gCons (gName 3) (gCons (gName 4) gNil))) (by rfl) sc_sizes.nd (pi_items (pv 0)) (blkOk_by (own := [("name", 3), ("size", 4)]) (N := ["thing", "least", "most", "name", "size"]) (sc := defScope s_sizes) (by decide +kernel)) (fun _ _ _ _ _ => (pg_tup rfl (pgs_cons (pg_name (i := 3) sc_sizes.nd rfl (.inl rfl)) (pgs_cons (pg_name (i := 4) sc_sizes.nd rfl (.inl rfl)) pgs_nil)))) (fun _ _ _ _ _ => pts_nil) (fun _ _ _ _ _ => (pe_and (pcall T.D_isname (ok_isname T) (hr.mono (by decide)) (by rfl) (pa_cons (pv 3) pa_nil)) (pe_and (pcall T.D_isnum (ok_isnum T) (hr.mono (by decide)) (by rfl) (pa_cons (pv 4) pa_nil)) (pe_one (pe_chain op_le op_le (pv 1) (pv 4) (pv 2)))))))) pa_nil))))), ?_⟩
    have tyD : TyX K H (.ref a) (.type "dict") := .base (.dK ha)
    refine ⟨_, rfl, _, _, _, _, true, rfl, .ty "dict", tyD, kit_ty (by decide +kernel), _, rfl, ?_⟩
    refine ite0 rfl ⟨_, rfl, a, _, rfl, ha, _, _, rfl, rfl, _, rfl, ?_⟩
    rw [List.length_map]
    have eD : decide ((4 : Int) < (kvs.length : Nat)) = !decide (kvs.length ≤ 4) := by
      by_cases h : kvs.length ≤ 4
      · rw [decide_eq_true h, decide_eq_false (by omega)]; rfl
      · rw [decide_eq_false h, decide_eq_true (by omega)]; rfl
    refine ite2 (fun h4 => ?_) (fun h4 => ?_)
    · have h4 := of_decide_eq_true h4
      have e : sizesD l u kvs = false := by
        unfold sizesD
        rw [decide_eq_false (by omega : ¬ kvs.length ≤ 4)]
        rfl
      rw [e] at q
      exact q H (Same.refl _)
    · have h4 : kvs.length ≤ 4 := by
        have : ¬ (4 : Int) < (kvs.length : Nat) := fun z => h4 (decide_eq_true z)
        omega
      have e : sizesD l u kvs = kvs.all fun q => isNameL q.1 && decide (l ≤ q.2 ∧ q.2 ≤ u) := by
        unfold sizesD
        rw [decide_eq_true h4]
        rfl
      rw [e] at q
      refine ⟨a, _, ha, True.intro, fun od => ?_⟩
      refine ⟨_, rfl, a, od, _, rfl, upd_same, fun L nL => ?_⟩
      have LD : L ≠ a := fun e => by rw [e, upd_same] at nL; cases nL
      generalize eF : upd H a (.frz od (.dK (kvs.map fun q => (Sum.inr q.1, V.int q.2)))) = HF at nL ⊢
      have hDF : HF a = some (.frz od (.dK (kvs.map fun q => (Sum.inr q.1, V.int q.2)))) := by rw [← eF, upd_same]
      refine lc_it (walk_items (kvs := kvs.map fun q => (Sum.inr q.1, V.int q.2))) (fun i H6 => Same HF H6 ∧ H6 L = some (.lst (((kvs.take i).map fun q => isNameL q.1 && decide (l ≤ q.2 ∧ q.2 ≤ u)).map V.bl))) ⟨same_upd nL, upd_same⟩ (fun i H6 _ g => g.1 _ _ hDF) ?_ ?_
      · rintro i x H3 H6 hi ⟨sm, hL⟩ ⟨Tt, x1, x2, rfl, nT, rfl, g1, g2⟩
        have hi1 : i < kvs.length := by rw [List.length_map] at hi; exact hi
        dsimp only at g1 g2
        rw [List.getElem?_map, List.getElem?_eq_getElem hi1] at g1 g2
        cases g1
        cases g2
        have smT := same_upd (o := .tup [.str kvs[i].1, .int kvs[i].2]) nT
        have fin : ∀ H' b, Same H3 H' → b = (isNameL kvs[i].1 && decide (l ≤ kvs[i].2 ∧ kvs[i].2 ≤ u)) → ∃ acc, H' L = some (.lst acc) ∧ acc.length < sizeLine ∧ Same HF (upd H' L (.lst (acc ++ [V.bl b]))) ∧ (upd H' L (.lst (acc ++ [V.bl b]))) L = some (.lst (((kvs.take (i + 1)).map fun q => isNameL q.1 && decide (l ≤ q.2 ∧ q.2 ≤ u)).map V.bl)) := fun H' b s' eb => by
          refine ⟨_, s' _ _ hL, by rw [List.length_map, List.length_map]; exact small1000 (Nat.le_trans (List.length_take_le _ _) (by omega)), (sm.trans s').own nL, ?_⟩
          rw [upd_same, List.take_add_one, List.getElem?_eq_getElem hi1, List.map_append, List.map_append, eb]
          rfl
        refine ⟨Tt, _, rfl, stt upd_same, rfl, _, _, rfl, _, _, rfl, rfl, rfl, ?_⟩
        refine ⟨_, rfl, _, .str kvs[i].1, rfl, .str _, (hok _ (List.getElem_mem hi1)).1, fun H7 s7 => ⟨_, rfl, ?_⟩⟩
        show if isNameL kvs[i].1 = true then _ else _
        cases en : isNameL kvs[i].1 with
        | false => exact fin _ _ (smT.trans s7) (by rw [en]; rfl)
        | true =>
          refine ⟨_, rfl, _, .int kvs[i].2, rfl, .int _, (hok _ (List.getElem_mem hi1)).2, fun H8 s8 => ⟨_, rfl, ?_⟩⟩
          refine ⟨_, rfl, _, rfl, _, _, rfl, rfl, _, rfl, ?_⟩
          have s38 := (smT.trans s7).trans s8
          refine ite2 (fun hl => ?_) (fun hl => ?_)
          · have hl := of_decide_eq_true hl
            refine ⟨_, rfl, _, _, rfl, rfl, fin _ _ s38 ?_⟩
            rw [en, Bool.true_and]
            exact decide_eq_decide.mpr ⟨fun h => ⟨hl, h⟩, fun h => h.2⟩
          · refine fin _ _ s38 ?_
            rw [en, Bool.true_and, decide_eq_false (fun h => hl (decide_eq_true h.1))]
      · rintro H6 ⟨sm, hL⟩
        rw [List.length_map, List.take_length] at hL
        refine ⟨sm _ _ hDF, ?_⟩
        have sF : Same H (upd H6 a (.dK (kvs.map fun q => (Sum.inr q.1, V.int q.2)))) := fun b o e => by
          by_cases eb : b = a
          · subst eb; rw [upd_same]; rw [ha] at e; exact e
          · rw [upd_ne eb]
            refine sm b o ?_
            rw [← eF, upd_ne eb]
            exact e
        refine ⟨L, _, rfl, sl (by rw [upd_ne LD]; exact hL), ?_⟩
        rw [List.all_map]
        exact q _ sF
end
end T06
namespace T06
open PySem PySem.Spec PyProof.Rows L2 HX HB HG HU HH HD HS HV
section
variable {P : Program} {w : World} {K : PySem.W.Frag} {mg : Str → Option Value} {base : Heap}
def locksD (zs : List Str) : Bool := decide (zs.length ≤ 4) && (zs.all isNameL && decide zs.Nodup)
def spLocks (K : PySem.W.Frag) : Sp := fun vs H Q _ => ∃ (a : Addr) (zs : List Str), vs = [.ref a] ∧
  H a = some (.lst (zs.map V.str)) ∧ zs.length ≤ 100 ∧ (∀ z ∈ zs, okD (.str z) = true) ∧
  ∀ H', Same H H' → Q (.bl (locksD zs)) H'
theorem ok_locks (T : Tp K w mg) : FnOk P w K mg base CX0 3 T.f_locks T.fd_locks ["thing"] (spLocks K) := by
  refine T.D_locks.F.ok sc_locks (fun vs H Q E h => ?_) (fun cdv A outer s H vs Q E hr h => ?_)
  · obtain ⟨a, zs, rfl, _⟩ := h
    rfl
  · obtain ⟨a, zs, rfl, ha, hz, hok, q⟩ := h
    refine ⟨_, (pss_cons (ps_if (PW.pt (pw_or (pt_not (pt_val (pe_callB call_isi (by rfl) T.isinstance (by decide +kernel) (pa_cons (pv 0) (pa_cons (pe_bltn (v := .ty "list") (by rfl) T.list (by decide +kernel) rfl) pa_nil))))) (pw_or1 (pt_cmpR op_gt (pe_callB call_len_seq (by rfl) T.len PySem.boot_len (pa_cons (pv 0) pa_nil)) (pe_gi (by rfl) T.c_MOST_NAMES) (nomark _)))))
  (pss_one (ps_ret pe_bl))
  pss_nil)
  (pss_one (ps_ret (pe_and (pe_callB (cr_all rfl) (by rfl) T.all (by decide +kernel) (pa_cons (pe_lc (own := [("name", 1)]) (g := gName 1) (by rfl) sc_locks.nd (pi_list (pv 0)) (blkOk_by (own := [("name", 1)]) (N := ["thing", "name"]) (sc := defScope s_locks) (by decide +kernel)) (fun _ _ _ _ _ => (pg_name (i := 1) sc_locks.nd rfl (.inl rfl))) (fun _ _ _ _ _ => pts_nil) (fun _ _ _ _ _ => (pcall T.D_isname (ok_isname T) (hr.mono (by decide)) (by rfl) (pa_cons (pv 1) pa_nil)))) pa_nil)) (pe_one (pe_cmpR op_eq (HV.pe_lenSetS (by rfl) T.len (by rfl) T.set (pv 0)) (pe_callB call_len_seq (by rfl) T.len PySem.boot_len (pa_cons (pv 0) pa_nil)) (nomark _))))))), ?_⟩
    have tyD : TyX K H (.ref a) (.type "list") := .base (.lst ha)
    refine ⟨_, rfl, _, _, _, _, true, rfl, .ty "list", tyD, kit_ty (by decide +kernel), _, rfl, ?_⟩
    refine ite0 rfl ⟨_, rfl, a, _, rfl, .inl (sl ha), _, _, rfl, rfl, _, rfl, ?_⟩
    rw [List.length_map]
    refine ite2 (fun h4 => ?_) (fun h4 => ?_)
    · have h4 := of_decide_eq_true h4
      have e : locksD zs = false := by
        unfold locksD
        rw [decide_eq_false (by omega : ¬ zs.length ≤ 4)]
        rfl
      rw [e] at q
      exact q H (Same.refl _)
    · have h4 : zs.length ≤ 4 := by
        have : ¬ (4 : Int) < (zs.length : Nat) := fun z => h4 (decide_eq_true z)
        omega
      have e : locksD zs = (zs.all isNameL && decide zs.Nodup) := by
        unfold locksD
        rw [decide_eq_true h4]
        rfl
      rw [e] at q
      refine ⟨_, rfl, a, rfl, ⟨_, sl ha⟩, fun L nL => ?_⟩
      refine lc_it (walk_list (xs := zs.map V.str)) (fun i H6 => Same H H6 ∧ H6 L = some (.lst (((zs.take i).map isNameL).map V.bl))) ⟨same_upd nL, upd_same⟩ (fun i H6 _ g => sl (g.1 _ _ ha)) ?_ ?_
      · rintro i x H3 H6 hi ⟨sm, hL⟩ ⟨rfl, g1⟩
        have hi1 : i < zs.length := by rw [List.length_map] at hi; exact hi
        rw [List.getElem?_map, List.getElem?_eq_getElem hi1] at g1
        cases g1
        refine ⟨rfl, _, rfl, _, .str zs[i], rfl, .str _, hok _ (List.getElem_mem hi1), fun H7 s7 => ?_⟩
        refine ⟨_, s7 _ _ hL, by rw [List.length_map, List.length_map]; exact small1000 (Nat.le_trans (List.length_take_le _ _) (by omega)), (sm.trans s7).own nL, ?_⟩
        rw [upd_same, List.take_add_one, List.getElem?_eq_getElem hi1, List.map_append, List.map_append]
        rfl
      · rintro H6 ⟨sm, hL⟩
        rw [List.length_map, List.take_length] at hL
        refine ⟨L, _, rfl, sl hL, ?_⟩
        rw [List.all_map]
        refine ⟨_, rfl, ?_⟩
        have ec : zs.all ((fun v => (match v with | V.bl b => b | _ => false)) ∘ V.bl ∘ isNameL) = zs.all isNameL := rfl
        refine ite2 (fun h => ?_) (fun h => ?_)
        · refine ⟨_, rfl, a, zs, rfl, sl (sm _ _ ha), by omega, _, rfl, a, _, rfl, .inl (sl (sm _ _ ha)), ?_⟩
          refine ⟨rfl, ?_⟩
          have h : zs.all isNameL = true := h
          have eu : decide (V.int (uq zs zs.length : Nat) = V.int ((zs.map V.str).length : Nat)) = decide zs.Nodup := by
            have := uq_all (xs := zs) zs.length (Nat.le_refl _)
            rw [List.take_length] at this
            rw [List.length_map]
            exact decide_eq_decide.mpr ⟨fun e => this.mp (by have := V.int.inj e; omega), fun e => by rw [this.mpr e]⟩
          rw [eu]
          rw [h, Bool.true_and] at q
          exact q H6 sm
        · have h : zs.all isNameL = false := by
            cases e : zs.all isNameL with
            | true => exact absurd e h
            | false => rfl
          rw [h] at q
          exact q H6 sm
end
end T06
namespace T06
open PySem PySem.Spec PyProof.Rows L2 HX HB HG HU HH HD HS HV HQ
section
variable {P : Program} {w : World} {K : PySem.W.Frag} {mg : Str → Option Value} {base : Heap}
theorem ok_np (T : Tp K w mg) : FnOk P w K mg base CX0 1 T.f_np T.fd_np ["self", "place"] (spEx T.C_NoProgram "place") := by
  refine T.D_np.ok sc_np (fun vs H Q E h => ?_) (fun cdv A outer s H vs Q E hr h => ?_)
  · obtain ⟨a, y, rfl, _⟩ := h
    rfl
  · obtain ⟨a, y, rfl, ha, q⟩ := h
    refine ⟨_, (pss_cons (ps_expr (HY.pe_baseinit T.bs_YardError (by rfl) T.gC_YardError (pa_cons (pv 0) (pa_cons pe_str pa_nil))))
  (pss_one (ps_ost (pv 0) (pv 1)))), ?_⟩
    exact ⟨_, rfl, a, T.C_NoProgram, [.str "no program"], rfl, by decide, T.x_NoProgram, ha, _, rfl, _, rfl, a, T.C_NoProgram, rfl, T.x_NoProgram, T.na_NoProgram_place, .inl ⟨ha, q⟩⟩
theorem kb_first (T : Tp K w mg) : KBn K T.fd_first ["body", "cells", "locks", "channels"] 1 ["cells", "locks", "channels"] (fun us ws => us ++ ws) (fun vs zs => vs ++ zs) := by
  obtain ⟨mv, h⟩ := T.D_first.kbinds0 (ps := ["body", "cells", "locks", "channels"]) 1 ["cells", "locks", "channels"] [] (fun us _ ws => us ++ ws) (List.cons_ne_nil _ _) (fun q h => by cases h) (fun a _ c => a.append c)
    (fun D doc pm an cdv ct us mv ws h1 h2 h3 => match us, ws, mv, h1, h2, h3 with | [_], [_, _, _], [], _, _, _ => rfl)
  exact h
/-! ### a program -/
def dI (kvs : List (Str × Int)) : List (Key × V) := kvs.map fun q => (Sum.inr q.1, V.int q.2)
def ArgD (H : Hp) (v : V) (kvs : List (Str × Int)) : Prop := (v = .non ∧ kvs = []) ∨ ∃ a, v = .ref a ∧ H a = some (.dK (dI kvs))
def ArgL (H : Hp) (v : V) (zs : List Str) : Prop := (v = .non ∧ zs = []) ∨ ∃ a, v = .ref a ∧ H a = some (.lst (zs.map V.str))
structure OkD (kvs : List (Str × Int)) : Prop where
  nd : (kvs.map (·.1)).Nodup
  few : kvs.length ≤ 100
  ok : ∀ q ∈ kvs, okD (.str q.1) = true ∧ okD (.int q.2) = true
structure PObj (K : PySem.W.Frag) (H : Hp) (p C : Addr) (b : V) (cs : List (Str × Int)) (ls : List Str) (ws : List (Str × Int)) (spots : List (List Int)) : Prop where
  ex : ∃ (dx s f l w : Addr) (vs : List V), H p = some (.ins C dx [("spots", .ref s), ("tree", b), ("first", .ref f), ("bolts", .ref l), ("widths", .ref w)]) ∧ H s = some (.lst vs) ∧ PL K H vs spots ∧ H f = some (.dK (dI cs)) ∧ H l = some (.lst (ls.map V.str)) ∧ H w = some (.dK (dI ws)) ∧ s ≠ l ∧ f ≠ w
def progD (N : Nat) (cs : List (Str × Int)) (ls : List Str) (ws : List (Str × Int)) (d : PyData) : Option (List Int) :=
  if sizesD (-99) 99 cs && (locksD ls && sizesD 1 4 ws) then
    match firstD (cs.map (·.1)) ls (ws.map (·.1)) N d with
    | some pl => some pl
    | none => if (placesD N (rowsD d) []).length ≤ 60 then none else some []
  else some []
/-- all but this instance stand -/
def V1 (p : Addr) (H H' : Hp) : Prop := ∀ b o, H b = some o → b ≠ p → H' b = some o
theorem V1.of {p : Addr} {H H' : Hp} (s : Same H H') : V1 p H H' := fun b o h _ => s b o h
theorem V1.trans {p : Addr} {H H' H'' : Hp} (a : V1 p H H') (s : Same H' H'') : V1 p H H'' := fun b o h e => s b o (a b o h e)
theorem V1.set {p : Addr} {H H' : Hp} (a : V1 p H H') {o : HO} : V1 p H (upd H' p o) := fun b x h e => by rw [upd_ne e]; exact a b x h e
theorem sqt_kept {K : PySem.W.Frag} {H H' : Hp} (k : ∀ a o, H a = some o → (∀ C dx fs, o ≠ .ins C dx fs) → H' a = some o) {a : Addr} {xs : List V} (h : SqT K H a xs) : SqT K H' a xs := by
  rcases h with (h | ⟨o, h⟩) | h
  · exact .inl (.inl (k _ _ h (by intro _ _ _ z; cases z)))
  · exact .inl (.inr ⟨o, k _ _ h (by intro _ _ _ z; cases z)⟩)
  · exact .inr h
def spProg (K : PySem.W.Frag) (N : Nat) (C CE : Addr) : Sp := fun vs H Q E => ∃ (p dx : Addr) (b : V) (d : PyData) (vc vl vw : V) (cs : List (Str × Int)) (ls : List Str) (ws : List (Str × Int)), vs = [.ref p, b, vc, vl, vw] ∧
  H p = some (.ins C dx []) ∧ Dp K H b d ∧ Good d N ∧ ArgD H vc cs ∧ OkD cs ∧ ArgL H vl ls ∧ ls.length ≤ 100 ∧ (∀ z ∈ ls, okD (.str z) = true) ∧ ArgD H vw ws ∧ OkD ws ∧ (placesD N (rowsD d) []).length ≤ sizeLine ∧
  ∀ H', V1 p H H' → match progD N cs ls ws d with
    | some pl => ∀ t dd : Addr, SqT K H' t (pl.map V.int) → H' dd = some (.xd [("place", .ref t)]) → H dd = none → E (.ref CE) (some dd) H'
    | none => PObj K H' p C b cs ls ws (placesD N (rowsD d) []) → Q .non H'
theorem ok_prog (T : Tp K w mg) (N : Nat) (hN : N ≤ 64) : FnOk P w K mg base (L2.CX P w) (N + (N + 4) + 2 + 1) T.f_prog T.fd_prog ["self", "body", "cells", "locks", "channels"] (spProg K N T.C_Program T.C_NoProgram) := by
  refine T.D_prog.ok sc_prog (fun vs H Q E h => ?_) (fun cdv A outer s H vs Q E hr h => ?_)
  · obtain ⟨p, dx, b, d, vc, vl, vw, cs, ls, ws, rfl, _⟩ := h
    rfl
  · obtain ⟨p, dx, b, d, vc, vl, vw, cs, ls, ws, rfl, hp, hd, good, hc, okc, hl, fewl, okl, hw, okw, hsz, q⟩ := h
    refine ⟨_, (Evl.pss_cut (ps_set (i := 5) sc_prog.nd rfl (.inl rfl) (pe_ifExp (pt_cmpR op_isN (pv 2) pe_non (nomark _)) pe_dnewK (pv 2)))
  (Evl.pss_cut (ps_set (i := 6) sc_prog.nd rfl (.inl rfl) (pe_ifExp (pt_cmpR op_isN (pv 3) pe_non (nomark _)) (pe_lst pa_nil) (pv 3)))
  (Evl.pss_cut (ps_set (i := 7) sc_prog.nd rfl (.inl rfl) (pe_ifExp (pt_cmpR op_isN (pv 4) pe_non (nomark _)) pe_dnewK (pv 4)))
  (pss_cons (ps_if (PW.pt (pw_or (pt_not (pt_val (pcall T.D_sizes (ok_sizes T) (hr.mono (by omega)) (by rfl) (pa_cons (pv 5) (pa_cons (pe_un un_neg pe_int) (pa_cons pe_int pa_nil)))))) (pw_or (pt_not (pt_val (pcall T.D_locks (ok_locks T) (hr.mono (by omega)) (by rfl) (pa_cons (pv 6) pa_nil)))) (pw_or1 (pt_not (pt_val (pcall T.D_sizes (ok_sizes T) (hr.mono (by omega)) (by rfl) (pa_cons (pv 7) (pa_cons pe_int (pa_cons pe_int pa_nil))))))))))
  (pss_one (ps_raise rfl (takes_of rfl rfl rfl rfl) (pmk_oex T.x_NoProgram T.i_NoProgram T.ti_NoProgram (ok_np T) (hr.mono (by omega)) T.b_np .nil pass0 (by rfl) T.gC_NoProgram (pa_cons (pe_tup pa_nil) pa_nil))))
  pss_nil)
  (pss_cons (ps_set (i := 8) sc_prog.nd rfl (.inl rfl) (pe_callN (ok_first T N hN) (hr.mono (by omega)) (by rfl) T.g_first T.D_first.kp (kb_first T) pass0 (pa_cons (pv 1) pa_nil) (pk_cons (pe_callTy call_tuple_of (by rfl) T.tuple (by decide +kernel) (pa_cons (pe_callTy (call_listD rfl) (by rfl) T.list (by decide +kernel) (pa_cons (pv 5) pa_nil)) pa_nil)) (pk_cons (pe_callTy call_tuple_of (by rfl) T.tuple (by decide +kernel) (pa_cons (pv 6) pa_nil)) (pk_cons (pe_callTy call_tuple_of (by rfl) T.tuple (by decide +kernel) (pa_cons (pe_callTy (call_listD rfl) (by rfl) T.list (by decide +kernel) (pa_cons (pv 7) pa_nil)) pa_nil)) pk_nil)))))
  (pss_cons (ps_if (pt_cmpR op_notN (pv 8) pe_non (nomark _))
  (pss_one (ps_raise rfl (takes_of rfl rfl rfl rfl) (pmk_oex T.x_NoProgram T.i_NoProgram T.ti_NoProgram (ok_np T) (hr.mono (by omega)) T.b_np .nil pass0 (by rfl) T.gC_NoProgram (pa_cons (pv 8) pa_nil))))
  pss_nil)
  (pss_cons (ps_fld (pv 0) (pcall T.D_places (ok_places T N hN N) (hr.mono (by omega)) (by rfl) (pa_cons (pv 1) (pa_cons (pe_tup pa_nil) pa_nil))) rfl)
  (pss_cons (ps_if (pt_cmpR op_gt (pe_callB call_len_seq (by rfl) T.len PySem.boot_len (pa_cons (pe_fld (pv 0) rfl) pa_nil)) (pe_gi (by rfl) T.c_MOST_ROWS) (nomark _))
  (pss_one (ps_raise rfl (takes_of rfl rfl rfl rfl) (pmk_oex T.x_NoProgram T.i_NoProgram T.ti_NoProgram (ok_np T) (hr.mono (by omega)) T.b_np .nil pass0 (by rfl) T.gC_NoProgram (pa_cons (pe_tup pa_nil) pa_nil))))
  pss_nil)
  (pss_cons (ps_fld (pv 0) (pv 1) rfl)
  (pss_cons (ps_fld (pv 0) (pe_callTy call_dictC (by rfl) T.dict (by decide +kernel) (pa_cons (pv 5) pa_nil)) rfl)
  (pss_cons (ps_fld (pv 0) (pe_callTy call_list_of (by rfl) T.list (by decide +kernel) (pa_cons (pv 6) pa_nil)) rfl)
  (pss_one (ps_fld (pv 0) (pe_callTy call_dictC (by rfl) T.dict (by decide +kernel) (pa_cons (pv 7) pa_nil)) rfl))))))))))))), ?_⟩
    have failE : ∀ pl, progD N cs ls ws d = some pl → ∀ (H1 : Hp), V1 p H H1 → H1 p ≠ none → ∀ t dd : Addr, SqT K H1 t (pl.map V.int) → H1 dd = none → E (.ref T.C_NoProgram) (some dd) (upd H1 dd (.xd [("place", .ref t)])) := fun pl e H1 v1 hp1 t dd ht nd => by
      have nH : H dd = none := by
        cases h : H dd with
        | none => rfl
        | some o =>
          by_cases e2 : dd = p
          · rw [e2] at nd; exact absurd nd hp1
          · rw [v1 _ _ h e2] at nd; cases nd
      have z := q _ (v1.trans (same_upd (o := .xd [("place", .ref t)]) nd))
      rw [e] at z
      exact z t dd ((same_upd nd).sqt ht) upd_same nH
    -- first
    refine ⟨fun σ H1 => ∃ a1, σ = [some (.ref p), some b, some vc, some vl, some vw, some (.ref a1), none, none, none] ∧ Same H H1 ∧ H1 a1 = some (.dK (dI cs)), ?_, ?_⟩
    · refine ⟨_, rfl, rfl, _, rfl, ?_⟩
      rcases hc with ⟨rfl, rfl⟩ | ⟨a, rfl, ha⟩
      · exact ite1 (decide_eq_true rfl) fun d1 nd => ⟨d1, rfl, same_upd nd, upd_same⟩
      · exact ite0 (decide_eq_false (by intro z; cases z)) ⟨_, rfl, a, rfl, Same.refl H, ha⟩
    rintro _ H1 ⟨a1, rfl, s1, h1⟩
    -- keys
    refine ⟨fun σ H2 => ∃ a2, σ = [some (.ref p), some b, some vc, some vl, some vw, some (.ref a1), some (.ref a2), none, none] ∧ Same H1 H2 ∧ H2 a2 = some (.lst (ls.map V.str)), ?_, ?_⟩
    · refine ⟨_, rfl, rfl, _, rfl, ?_⟩
      rcases hl with ⟨rfl, rfl⟩ | ⟨a, rfl, ha⟩
      · exact ite1 (decide_eq_true rfl) ⟨Nat.zero_le _, fun d1 nd => ⟨d1, rfl, same_upd nd, upd_same⟩⟩
      · exact ite0 (decide_eq_false (by intro z; cases z)) ⟨_, rfl, a, rfl, Same.refl H1, s1 _ _ ha⟩
    rintro _ H2 ⟨a2, rfl, s2, h2⟩
    -- widths
    refine ⟨fun σ H3 => ∃ a3, σ = [some (.ref p), some b, some vc, some vl, some vw, some (.ref a1), some (.ref a2), some (.ref a3), none] ∧ Same H2 H3 ∧ H3 a3 = some (.dK (dI ws)), ?_, ?_⟩
    · refine ⟨_, rfl, rfl, _, rfl, ?_⟩
      rcases hw with ⟨rfl, rfl⟩ | ⟨a, rfl, ha⟩
      · exact ite1 (decide_eq_true rfl) fun d1 nd => ⟨d1, rfl, same_upd nd, upd_same⟩
      · exact ite0 (decide_eq_false (by intro z; cases z)) ⟨_, rfl, a, rfl, Same.refl H2, s2 _ _ (s1 _ _ ha)⟩
    rintro _ H3 ⟨a3, rfl, s3, h3⟩
    have s03 := (s1.trans s2).trans s3
    have h1 := s3 _ _ (s2 _ _ h1)
    have h2 := s3 _ _ h2
    clear s1 s2 s3 hc hl hw
    -- the tests
    have bad : ∀ H4, Same H H4 → (sizesD (-99) 99 cs && (locksD ls && sizesD 1 4 ws)) = false → ∀ t dd : Addr, H4 t = none → (upd H4 t (.tup [])) dd = none → E (.ref T.C_NoProgram) (some dd) (upd (upd H4 t (.tup [])) dd (.xd [("place", .ref t)])) := fun H4 s4 e t dd nt nd => by
      refine failE [] (by unfold progD; rw [e]; rfl) _ (V1.of (s4.trans (same_upd nt))) ?_ t dd (stt upd_same) nd
      rw [(s4.trans (same_upd nt)) _ _ hp]
      exact Option.some_ne_none _
    refine ⟨_, rfl, _, rfl, a1, cs, -99, 99, rfl, h1, okc.nd, okc.few, okc.ok, fun H4 s4 => ⟨_, rfl, ?_⟩⟩
    have s04 := s03.trans s4
    cases e1 : sizesD (-99) 99 cs with
    | false => exact iteT (iteT ⟨Nat.zero_le _, fun t nt => mkO_of fun dd nd => bad H4 s04 (by rw [e1]; rfl) t dd nt nd⟩)
    | true =>
    refine iteF ⟨_, rfl, a2, ls, rfl, s4 _ _ h2, fewl, okl, fun H5 s5 => ⟨_, rfl, ?_⟩⟩
    have s05 := s04.trans s5
    cases e2 : locksD ls with
    | false => exact iteT (iteT ⟨Nat.zero_le _, fun t nt => mkO_of fun dd nd => bad H5 s05 (by rw [e1, e2]; rfl) t dd nt nd⟩)
    | true =>
    refine iteF ⟨_, rfl, a3, ws, 1, 4, rfl, s5 _ _ (s4 _ _ h3), okw.nd, okw.few, okw.ok, fun H6 s6 => ⟨_, rfl, ?_⟩⟩
    have s06 := s05.trans s6
    cases e3 : sizesD 1 4 ws with
    | false => exact iteT ⟨Nat.zero_le _, fun t nt => mkO_of fun dd nd => bad H6 s06 (by rw [e1, e2, e3]; rfl) t dd nt nd⟩
    | true =>
    refine iteF ?_
    have h1 := s6 _ _ (s5 _ _ (s4 _ _ h1))
    have h2 := s6 _ _ (s5 _ _ (s4 _ _ h2))
    have h3 := s6 _ _ (s5 _ _ (s4 _ _ h3))
    clear s4 s5 s6 s03 s04 s05 bad
    have eP : progD N cs ls ws d = match firstD (cs.map (·.1)) ls (ws.map (·.1)) N d with
      | some pl => some pl
      | none => if (placesD N (rowsD d) []).length ≤ 60 then none else some [] := by
      unfold progD
      rw [e1, e2, e3]
      rfl
    have kk : ∀ kvs : List (Str × Int), (dI kvs).map (fun kv => kV kv.1) = (kvs.map (·.1)).map V.str := fun kvs => by
      unfold dI
      rw [List.map_map, List.map_map]
      rfl
    show tSeq _ _ _ _ _
    -- wrong
    refine ⟨_, rfl, _, rfl, a1, _, rfl, .inl h1, fun l1 n1 => ⟨l1, _, rfl, .inl ⟨sl upd_same, fun t1 m1 => ?_⟩⟩⟩
    rw [kk]
    rw [kk] at m1
    have sA := (same_upd (o := .lst ((cs.map (·.1)).map V.str)) n1).trans (same_upd (o := .tup ((cs.map (·.1)).map V.str)) m1)
    have hA : (upd (upd H6 l1 (.lst ((cs.map (·.1)).map V.str))) t1 (.tup ((cs.map (·.1)).map V.str))) t1 = some (.tup ((cs.map (·.1)).map V.str)) := upd_same
    generalize upd (upd H6 l1 (.lst ((cs.map (·.1)).map V.str))) t1 (.tup ((cs.map (·.1)).map V.str)) = HA at sA hA ⊢
    refine ⟨_, rfl, a2, _, rfl, .inl ⟨sl (sA _ _ h2), fun t2 m2 => ?_⟩⟩
    have sB := same_upd (o := .tup (ls.map V.str)) m2
    have hB : (upd HA t2 (.tup (ls.map V.str))) t2 = some (.tup (ls.map V.str)) := upd_same
    generalize upd HA t2 (.tup (ls.map V.str)) = HB at sB hB ⊢
    refine ⟨_, rfl, a3, _, rfl, .inl (sB _ _ (sA _ _ h3)), fun l3 n3 => ⟨l3, _, rfl, .inl ⟨sl upd_same, fun t3 m3 => ?_⟩⟩⟩
    rw [kk]
    rw [kk] at m3
    have sC := (same_upd (o := .lst ((ws.map (·.1)).map V.str)) n3).trans (same_upd (o := .tup ((ws.map (·.1)).map V.str)) m3)
    have hC : (upd (upd HB l3 (.lst ((ws.map (·.1)).map V.str))) t3 (.tup ((ws.map (·.1)).map V.str))) t3 = some (.tup ((ws.map (·.1)).map V.str)) := upd_same
    generalize upd (upd HB l3 (.lst ((ws.map (·.1)).map V.str))) t3 (.tup ((ws.map (·.1)).map V.str)) = HC at sC hC ⊢
    have s0C := s06.trans ((sA.trans sB).trans sC)
    have s6C := (sA.trans sB).trans sC
    refine ⟨rfl, rfl, b, d, t1, t2, t3, _, _, _, rfl, s0C.dp hd, good, stt (sC _ _ (sB _ _ hA)), stt (sC _ _ hB), stt hC, fun v H7 s7 hres => ?_⟩
    have s07 := s0C.trans s7
    have h1 := s7 _ _ (s6C _ _ h1)
    have h2 := s7 _ _ (s6C _ _ h2)
    have h3 := s7 _ _ (s6C _ _ h3)
    have hp7 := s07 _ _ hp
    clear s7 s6C sA sB sC
    refine ⟨_, rfl, rfl, _, rfl, ?_⟩
    cases e4 : firstD (cs.map (·.1)) ls (ws.map (·.1)) N d with
    | some pl =>
      rw [e4] at hres eP
      obtain ⟨t, rfl, ht⟩ := hres
      refine ite1 (by rw [decide_eq_false (by intro z; cases z)]; rfl) ⟨_, rfl, mkO_of fun dd nd => failE pl eP _ (V1.of s07) ?_ t dd ht nd⟩
      rw [hp7]
      exact Option.some_ne_none _
    | none =>
    rw [e4] at hres eP
    have hres : v = .non := hres
    subst hres
    dsimp only at eP
    refine ite0 (by rw [decide_eq_true rfl]; rfl) ?_
    obtain ⟨rows, rfl⟩ : ∃ rows, d = .tuple rows := by cases d <;> first | exact ⟨_, rfl⟩ | cases e4
    have e4 : wrongD (cs.map (·.1)) ls (ws.map (·.1)) N rows [] [] 0 = none := e4
    obtain ⟨bb, xs, rfl, hx, hall⟩ := dp_tup hd
    have hsz : (placesD N rows []).length ≤ sizeLine := hsz
    have eP : progD N cs ls ws (.tuple rows) = if (placesD N rows []).length ≤ 60 then none else some [] := eP
    show tSeq _ _ _ _ _
    -- spots
    refine ⟨_, rfl, Nat.zero_le _, fun t nt => ?_⟩
    have sD := same_upd (o := .tup []) nt
    have hD : (upd H7 t (.tup [])) t = some (.tup []) := upd_same
    generalize upd H7 t (.tup []) = H8 at sD hD ⊢
    have s08 := s07.trans sD
    refine ⟨bb, t, rows, [], _, _, _, [], 0, rfl, s08.dp hd, good, Nat.le_refl _, stt hD, Nat.zero_le _, e4, hsz, fun l H9 vs s9 hl9 nl9 hPL => ?_⟩
    have s09 := s08.trans s9
    have s79 := sD.trans s9
    have h1 := s79 _ _ h1
    have h2 := s79 _ _ h2
    have h3 := s79 _ _ h3
    have hp9 := s79 _ _ hp7
    have v09 := V1.of (p := p) s09
    clear sD s9 s79 s07 s08 hp7
    refine ⟨_, rfl, p, T.C_Program, dx, [], rfl, hp9, T.cl_Program, T.na_Program_spots, by decide, ?_⟩
    have ne : ∀ {a : Addr} {o : HO}, H9 a = some o → (∀ C dx fs, o ≠ .ins C dx fs) → a ≠ p := fun h z e => by
      subst e
      rw [hp9] at h
      exact z _ _ _ (Option.some.inj h).symm
    have l_p : l ≠ p := ne hl9 (by intro _ _ _ z; cases z)
    have hl10 : (upd H9 p (.ins T.C_Program dx (putF "spots" (.ref l) []))) l = some (.lst vs) := by rw [upd_ne l_p]; exact hl9
    have hp10 : (upd H9 p (.ins T.C_Program dx (putF "spots" (.ref l) []))) p = some (.ins T.C_Program dx [("spots", .ref l)]) := upd_same
    have v10 : V1 p H (upd H9 p (.ins T.C_Program dx (putF "spots" (.ref l) []))) := v09.set
    have w10 : V1 p H9 (upd H9 p (.ins T.C_Program dx (putF "spots" (.ref l) []))) := (V1.of (Same.refl _)).set
    generalize upd H9 p (.ins T.C_Program dx (putF "spots" (.ref l) [])) = H10 at hl10 hp10 v10 w10 ⊢
    have lenv : vs.length = (placesD N rows []).length := paired_len hPL
    refine ⟨_, rfl, p, T.C_Program, dx, _, _, rfl, hp10, T.cl_Program, T.na_Program_spots, rfl, l, _, rfl, .inl (sl hl10), _, _, rfl, rfl, _, rfl, ?_⟩
    refine ite2 (fun hm => ?_) (fun hm => ?_)
    · have hm := of_decide_eq_true hm
      have e60 : ¬ (placesD N rows []).length ≤ 60 := by omega
      refine ⟨Nat.zero_le _, fun t nt => mkO_of fun dd nd => failE [] (by rw [eP, if_neg e60]) _ (v10.trans (same_upd nt)) ?_ t dd (stt upd_same) nd⟩
      rw [same_upd nt _ _ hp10]
      exact Option.some_ne_none _
    have e60 : (placesD N rows []).length ≤ 60 := by
      have : ¬ (60 : Int) < (vs.length : Nat) := fun z => hm (decide_eq_true z)
      omega
    rw [if_pos e60] at eP
    -- the fields
    refine ⟨_, rfl, _, rfl, p, T.C_Program, dx, _, rfl, hp10, T.cl_Program, T.na_Program_tree, by show 1 < 1000; decide, ?_⟩
    have h1 := w10 _ _ h1 (ne h1 (by intro _ _ _ z; cases z))
    have h2 := w10 _ _ h2 (ne h2 (by intro _ _ _ z; cases z))
    have h3 := w10 _ _ h3 (ne h3 (by intro _ _ _ z; cases z))
    have put : ∀ (Ha : Hp) (f : Str) (v : V) (fs fs' : List (Str × V)), putF f v fs = fs' → Ha p = some (.ins T.C_Program dx fs) → V1 p H Ha → ∀ Hb, Hb = upd Ha p (.ins T.C_Program dx (putF f v fs)) → Hb p = some (.ins T.C_Program dx fs') ∧ V1 p H Hb ∧ (∀ a o, Ha a = some o → (∀ C dx fs, o ≠ .ins C dx fs) → Hb a = some o) := fun Ha f v fs fs' e h1 h2 Hb e2 => by
      subst e2
      refine ⟨by rw [upd_same, e], h2.set, fun a o h3 h4 => ?_⟩
      rw [upd_ne (fun z => by subst z; rw [h1] at h3; exact h4 _ _ _ (Option.some.inj h3).symm)]
      exact h3
    obtain ⟨hp11, v11, k11⟩ := put H10 "tree" (.ref bb) _ _ rfl hp10 v10 _ rfl
    generalize upd H10 p (.ins T.C_Program dx (putF "tree" (.ref bb) [("spots", .ref l)])) = H11 at hp11 v11 k11 ⊢
    have h1 := k11 _ _ h1 (by intro _ _ _ z; cases z)
    have h2 := k11 _ _ h2 (by intro _ _ _ z; cases z)
    have h3 := k11 _ _ h3 (by intro _ _ _ z; cases z)
    have hl11 := k11 _ _ hl10 (by intro _ _ _ z; cases z)
    refine ⟨_, rfl, a1, _, rfl, .inl h1, fun f nf => ⟨_, rfl, p, T.C_Program, dx, _, rfl, same_upd nf _ _ hp11, T.cl_Program, T.na_Program_first, by show 2 < 1000; decide, ?_⟩⟩
    obtain ⟨hp12, v12, k12⟩ := put (upd H11 f (.dK (dI cs))) "first" (.ref f) _ _ rfl (same_upd nf _ _ hp11) (v11.trans (same_upd nf)) _ rfl
    have hf12 := k12 f _ upd_same (by intro _ _ _ z; cases z)
    have h2 := k12 _ _ (same_upd nf _ _ h2) (by intro _ _ _ z; cases z)
    have h3 := k12 _ _ (same_upd nf _ _ h3) (by intro _ _ _ z; cases z)
    have hl12 := k12 _ _ (same_upd nf _ _ hl11) (by intro _ _ _ z; cases z)
    generalize upd (upd H11 f (.dK (dI cs))) p (.ins T.C_Program dx (putF "first" (.ref f) (putF "tree" (.ref bb) [("spots", .ref l)]))) = H12 at hp12 v12 k12 hf12 h2 h3 hl12 ⊢
    refine ⟨_, rfl, a2, _, rfl, .inl (sl h2), fun g ng => ⟨_, rfl, p, T.C_Program, dx, _, rfl, same_upd ng _ _ hp12, T.cl_Program, T.na_Program_bolts, by show 3 < 1000; decide, ?_⟩⟩
    obtain ⟨hp13, v13, k13⟩ := put (upd H12 g (.lst (ls.map V.str))) "bolts" (.ref g) _ _ rfl (same_upd ng _ _ hp12) (v12.trans (same_upd ng)) _ rfl
    have gl : l ≠ g := ne_of_none hl12 ng
    have hg13 := k13 g _ upd_same (by intro _ _ _ z; cases z)
    have hf13 := k13 _ _ (same_upd ng _ _ hf12) (by intro _ _ _ z; cases z)
    have h3 := k13 _ _ (same_upd ng _ _ h3) (by intro _ _ _ z; cases z)
    have hl13 := k13 _ _ (same_upd ng _ _ hl12) (by intro _ _ _ z; cases z)
    show tSeq _ _ _ _ _
    generalize upd (upd H12 g (.lst (ls.map V.str))) p (.ins T.C_Program dx (putF "bolts" (.ref g) (putF "first" (.ref f) (putF "tree" (.ref bb) [("spots", .ref l)])))) = H13 at hp13 v13 k13 hg13 hf13 h3 hl13 ⊢
    refine ⟨_, rfl, a3, _, rfl, .inl h3, fun wd nw => ⟨_, rfl, p, T.C_Program, dx, _, rfl, same_upd nw _ _ hp13, T.cl_Program, T.na_Program_widths, by show 4 < 1000; decide, ?_⟩⟩
    obtain ⟨hp14, v14, k14⟩ := put (upd H13 wd (.dK (dI ws))) "widths" (.ref wd) _ _ rfl (same_upd nw _ _ hp13) (v13.trans (same_upd nw)) _ rfl
    have fw : f ≠ wd := ne_of_none hf13 nw
    have kA : ∀ a o, H9 a = some o → (∀ C dx fs, o ≠ .ins C dx fs) → (upd (upd H13 wd (.dK (dI ws))) p (.ins T.C_Program dx (putF "widths" (.ref wd) (putF "bolts" (.ref g) (putF "first" (.ref f) (putF "tree" (.ref bb) [("spots", .ref l)])))))) a = some o :=
      fun a o h z => k14 _ _ (same_upd nw _ _ (k13 _ _ (same_upd ng _ _ (k12 _ _ (same_upd nf _ _ (k11 _ _ (w10 _ _ h (ne h z)) z)) z)) z)) z
    have z := q _ v14
    rw [eP] at z
    exact z ⟨dx, l, f, g, wd, vs, hp14, kA _ _ hl9 (by intro _ _ _ z; cases z), paired_imp (fun _ _ ⟨t, e, h⟩ => ⟨t, e, sqt_kept kA h⟩) hPL, k14 _ _ (same_upd nw _ _ hf13) (by intro _ _ _ z; cases z), k14 _ _ (same_upd nw _ _ hg13) (by intro _ _ _ z; cases z), k14 _ _ upd_same (by intro _ _ _ z; cases z), gl, fw⟩
end
end T06
namespace T06
open PySem PySem.Spec PyProof.Rows L2 HX HB HG HU HH HD HS HV HQ
/-! ### what is drawn from -/
abbrev drL (g c : Addr) (r t : Int) : List (Key × V) := [(Sum.inr "great", .ref g), (Sum.inr "rest", .int r), (Sum.inr "cells", .ref c), (Sum.inr "turn", .int t)]
abbrev drO (g c : Addr) (r t : Int) : HO := .dK (drL g c r t)
structure Dr (H : Hp) (d g c : Addr) : Prop where
  ex : ∃ (gs cs : List Int) (r t : Int), H d = some (drO g c r t) ∧ H g = some (.lst (gs.map V.int)) ∧ H c = some (.lst (cs.map V.int)) ∧ cs ≠ [] ∧ gs.length ≤ 1000 ∧ cs.length ≤ 1000 ∧ g ≠ c
/-- all but these two stand -/
def Up (d g : Addr) (H H' : Hp) : Prop := ∀ b o, H b = some o → b ≠ d → b ≠ g → H' b = some o
section
variable {d g c : Addr} {H H' H'' : Hp} {K : PySem.W.Frag}
theorem Up.refl (H : Hp) : Up d g H H := fun _ _ h _ _ => h
theorem Up.trans (a : Up d g H H') (b : Up d g H' H'') : Up d g H H'' := fun x o h h1 h2 => b x o (a x o h h1 h2) h1 h2
theorem Up.of (s : Same H H') : Up d g H H' := fun b o h _ _ => s b o h
theorem Up.set (u : Up d g H H') {b : Addr} {o : HO} (hb : b = d ∨ b = g) : Up d g H (upd H' b o) := fun x y h h1 h2 => by
  rw [upd_ne (by rintro rfl; exact hb.elim h1 h2)]
  exact u x y h h1 h2
theorem Dr.same (D : Dr H d g c) (s : Same H H') : Dr H' d g c := by
  obtain ⟨gs, cs, r, t, h1, h2, h3, h4⟩ := D.ex
  exact ⟨gs, cs, r, t, s _ _ h1, s _ _ h2, s _ _ h3, h4⟩
/-- an object apart is written -/
theorem Dr.set (D : Dr H d g c) {b : Addr} {o : HO} (hd : b ≠ d) (hg : b ≠ g) (hc : b ≠ c) : Dr (upd H b o) d g c := by
  obtain ⟨gs, cs, r, t, h1, h2, h3, h4⟩ := D.ex
  exact ⟨gs, cs, r, t, by rw [upd_ne hd.symm]; exact h1, by rw [upd_ne hg.symm]; exact h2, by rw [upd_ne hc.symm]; exact h3, h4⟩
theorem Dr.apart (D : Dr H d g c) {b : Addr} (n : H b = none) : b ≠ d ∧ b ≠ g ∧ b ≠ c := by
  obtain ⟨gs, cs, r, t, h1, h2, h3, h4⟩ := D.ex
  exact ⟨(ne_of_none h1 n).symm, (ne_of_none h2 n).symm, (ne_of_none h3 n).symm⟩
/-- .. that was none ahead -/
theorem Up.own (u : Up d g H H') {b : Addr} {o : HO} (n : H b = none) : Up d g H (upd H' b o) := fun x y h h1 h2 => by
  rw [upd_ne (ne_of_none h n)]
  exact u x y h h1 h2
/-- tuples stand -/
theorem Up.sqt (u : Up d g H H') (D : Dr H d g c) {a : Addr} {xs : List V} (h : SqT K H a xs) : SqT K H' a xs := by
  obtain ⟨gs, cs, r, t, h1, h2, _⟩ := D.ex
  rcases h with (h | ⟨o, h⟩) | h
  · exact .inl (.inl (u _ _ h (ne_of h h1 (by intro z; cases z)) (ne_of h h2 (by intro z; cases z))))
  · exact .inl (.inr ⟨o, u _ _ h (ne_of h h1 (by intro z; cases z)) (ne_of h h2 (by intro z; cases z))⟩)
  · exact .inr h
end
theorem seq0 {α : Type} {x : α} (xs : List α) : seqIndex? 0 (x :: xs).length = some 0 := by
  unfold seqIndex?
  simp
theorem put_rest (g c : Addr) (r t v : Int) : putK (drL g c r t) (Sum.inr "rest") (.int v) = drL g c v t := rfl
theorem put_turn (g c : Addr) (r t v : Int) : putK (drL g c r t) (Sum.inr "turn") (.int v) = drL g c r v := rfl
theorem val_great (g c : Addr) (r t : Int) : valV (drL g c r t) (Sum.inr "great") = some (.ref g) := rfl
theorem val_rest (g c : Addr) (r t : Int) : valV (drL g c r t) (Sum.inr "rest") = some (.int r) := rfl
theorem val_cells (g c : Addr) (r t : Int) : valV (drL g c r t) (Sum.inr "cells") = some (.ref c) := rfl
theorem val_turn (g c : Addr) (r t : Int) : valV (drL g c r t) (Sum.inr "turn") = some (.int t) := rfl
theorem dr_lt (g c : Addr) (r t : Int) : (drL g c r t).length < sizeLine := by show 4 < sizeLine; decide
theorem dp_ints {K : PySem.W.Frag} {H : Hp} : ∀ ns : List Int, DpAll K H (ns.map V.int) (ns.map PyData.int)
  | [] => .nil
  | n :: ns => .cons (.int n) (dp_ints ns)
theorem ints_lay : ∀ ns : List Int, PyData.canLayAll0 (ns.map PyData.int) = true
  | [] => rfl
  | n :: ns => by simp only [List.map_cons, PyData.canLayAll0, PyData.canLay0, ints_lay ns, Bool.and_self]
theorem ints_depth : ∀ ns : List Int, PyData.depthAll (ns.map PyData.int) = 0
  | [] => rfl
  | n :: ns => by simp only [List.map_cons, PyData.depthAll, PyData.depth, ints_depth ns, Nat.max_self]
theorem ints_shaped (ns : List Int) : SeqAt.shaped (.list (ns.map PyData.int)) = true := by
  show (PyData.canLay0 (.list (ns.map PyData.int)) && decide (PyData.depth (.list (ns.map PyData.int)) ≤ 64)) = true
  simp only [PyData.canLay0, PyData.depth, ints_lay ns, ints_depth ns]
  rfl
section
variable {P : Program} {w : World} {K : PySem.W.Frag} {mg : Str → Option Value} {base : Heap}
def spNext : Sp := fun vs H Q _ => ∃ (d g c : Addr) (n : Int), vs = [.ref d, .int n] ∧ Dr H d g c ∧ 0 < n ∧ n ≤ 10 ^ 13 ∧ ∀ r H', 0 ≤ r → r < n → Dr H' d g c → Up d g H H' → Q (.int r) H'
theorem ok_next (T : Tp K w mg) : FnOk P w K mg base CX0 1 T.f_next T.fd_next ["_law_draw", "_law_size"] spNext := by
  refine T.D_next.F.ok sc_next (fun vs H Q E h => ?_) (fun cdv A outer s H vs Q E hr h => ?_)
  · obtain ⟨d, g, c, n, rfl, _⟩ := h
    rfl
  · obtain ⟨d, g, c, n, rfl, D, n0, n1, q⟩ := h
    have hu := hu_of hr
    refine ⟨_, (Evl.pss_cut (ps_if (PW.pt (pw_and (pt_cmpR op_lt (pe_dget hu (pv 0) pe_str (fun _ _ => rfl)) pe_int (nomark _)) (pw_and1 (pt_cmpR (op_neD hr.units) (pe_dget hu (pv 0) pe_str (fun _ _ => rfl)) (pe_lst pa_nil) (nomark _)))))
  (pss_one (ps_dput hu (pv 0) pe_str (pe_bm PySem.F.plainAttrs_list PySem.F.slot_list_pop PySem.F.type_list_pop mt_popAt (pe_dget hu (pv 0) pe_str (fun _ _ => rfl)) (pa_cons pe_int pa_nil)) rfl))
  pss_nil)
  (pss_cons (ps_if (pt_cmpR op_gt (pe_dget hu (pv 0) pe_str (fun _ _ => rfl)) pe_int (nomark _))
  (pss_cons (ps_set (i := 2) sc_next.nd rfl (.inl rfl) (pe_op op_modN (pe_dget hu (pv 0) pe_str (fun _ _ => rfl)) (pv 1)))
  (pss_cons (ps_dput hu (pv 0) pe_str (pe_op op_fdivW (pe_dget hu (pv 0) pe_str (fun _ _ => rfl)) (pv 1)) rfl)
  (pss_one (ps_ret (pv 2)))))
  pss_nil)
  (pss_cons (ps_par (i := 3) (j := 4) rfl sc_next.nd rfl rfl (by decide) rfl rfl (pa_cons (pe_dget hu (pv 0) pe_str (fun _ _ => rfl)) (pa_cons (pe_dget hu (pv 0) pe_str (fun _ _ => rfl)) pa_nil)) (by rfl))
  (pss_cons (ps_dput hu (pv 0) pe_str (pe_op op_add (pv 3) pe_int) rfl)
  (pss_cons (ps_set (i := 5) sc_next.nd rfl (.inl rfl) (pe_op op_mod (pe_op op_mul (pe_op op_add (pe_op op_add (pe_ix ix_list (pv 4) (pe_op op_modN (pv 3) (pe_callB call_len_seq (by rfl) T.len PySem.boot_len (pa_cons (pv 4) pa_nil))) (fun _ _ => rfl)) (pe_op op_mul pe_int (pv 3))) pe_int) pe_int) pe_int))
  (pss_cons (ps_set (i := 6) sc_next.nd rfl (.inl rfl) (pe_ix ix_list (pe_lst (pa_cons pe_int (pa_cons pe_int (pa_cons pe_int (pa_cons pe_int (pa_cons pe_int pa_nil)))))) (pe_op op_mod (pv 3) pe_int) (fun _ _ => rfl)))
  (pss_one (ps_ret (pe_op op_modN (pe_op op_fdiv (pe_op op_modN (pe_op op_mul (pv 5) (pe_op op_add (pe_op op_add (pv 5) (pe_op op_mul pe_int (pv 3))) pe_int)) (pv 6)) pe_int) (pv 1)))))))))), ?_⟩
    have hdiv : CDivW 0 n := wide_div n0 (b := 50) (by omega) (by decide) (by decide)
    refine ⟨fun σ H' => (∃ y2 y3 y4 y5 y6, σ = [some (.ref d), some (.int n), y2, y3, y4, y5, y6]) ∧ Dr H' d g c ∧ Up d g H H', ?_, ?_⟩
    · obtain ⟨gs, cs, r, t, h1, h2, h3, h4, h5, h6, h7⟩ := D.ex
      have gd : g ≠ d := ne_of h2 h1 (by intro z; cases z)
      have cd : c ≠ d := ne_of h3 h1 (by intro z; cases z)
      have stay : ∃ y2 y3 y4 y5 y6, start ["_law_draw", "_law_size", "_law_number", "_law_turn", "_law_stock", "_law_made", "_law_prime"] [.ref d, .int n] = [some (.ref d), some (.int n), y2, y3, y4, y5, y6] := ⟨_, _, _, _, _, rfl⟩
      refine ⟨_, rfl, d, _, rfl, DGet.k (k := Sum.inr "rest") h1, _, _, rfl, rfl, _, rfl, ite2 (fun _ => ?_) (fun _ => ⟨stay, D, Up.refl H⟩)⟩
      refine ⟨_, rfl, d, _, rfl, DGet.k (k := Sum.inr "great") h1, (by decide), fun e ne => ?_⟩
      have se : Same H (upd H e (.lst [])) := same_upd ne
      have hee : (upd H e (.lst [])) e = some (.lst []) := upd_same
      generalize upd H e (.lst []) = H1 at se hee ⊢
      refine ⟨.list (gs.map .int), .list [], .lst (sl (se _ _ h2)) (dp_ints gs), .lst (sl hee) .nil, ints_shaped gs, rfl, _, rfl, ?_⟩
      cases gs with
      | nil => exact ⟨stay, D.same se, Up.of se⟩
      | cons x gs =>
        refine ite1 rfl ?_
        refine ⟨_, rfl, d, _, rfl, DGet.k (k := Sum.inr "great") (se _ _ h1), ?_⟩
        refine ⟨.inl ⟨rfl, _, sl (se _ _ h2)⟩, g, _, 0, 0, _, rfl, rfl, se _ _ h2, by decide, by decide, seq0 _, rfl, ?_⟩
        refine ⟨_, rfl, d, _, rfl, DPut.k (k := Sum.inr "rest") (by rw [upd_ne gd.symm]; exact se _ _ h1) (dr_lt g c r t), ?_⟩
        refine ⟨stay, ⟨gs, cs, x, t, by rw [upd_same, put_rest], ?_, ?_, h4, by simp only [List.length_cons] at h5; omega, h6, h7⟩, ((Up.of se).set (.inr rfl)).set (.inl rfl)⟩
        · rw [upd_ne gd, upd_same]; rfl
        · rw [upd_ne cd, upd_ne h7.symm]; exact se _ _ h3
    · rintro σ H1 ⟨⟨y2, y3, y4, y5, y6, rfl⟩, D1, u1⟩
      obtain ⟨gs, cs, r, t, h1, h2, h3, h4, h5, h6, h7⟩ := id D1
      have gd : g ≠ d := ne_of h2 h1 (by intro z; cases z)
      have cd : c ≠ d := ne_of h3 h1 (by intro z; cases z)
      have put : ∀ r' t' H2, H2 = upd H1 d (drO g c r' t') → Dr H2 d g c ∧ Up d g H H2 := fun r' t' H2 e => by
        subst e
        refine ⟨⟨gs, cs, r', t', upd_same, by rw [upd_ne gd]; exact h2, by rw [upd_ne cd]; exact h3, h4, h5, h6, h7⟩, u1.set (.inl rfl)⟩
      refine ⟨_, rfl, d, _, rfl, DGet.k (k := Sum.inr "rest") h1, _, _, rfl, rfl, _, rfl, ite2 (fun _ => ?_) (fun _ => ?_)⟩
      · refine ⟨_, rfl, d, _, rfl, DGet.k (k := Sum.inr "rest") h1, _, rfl, _, _, rfl, rfl, (by omega), ?_⟩
        refine ⟨_, rfl, d, _, rfl, DGet.k (k := Sum.inr "rest") h1, _, rfl, _, _, rfl, rfl, hdiv, _, rfl, d, _, rfl, DPut.k (k := Sum.inr "rest") h1 (dr_lt g c r t), ?_⟩
        obtain ⟨D2, u2⟩ := put (r / n) t _ rfl
        exact ⟨_, rfl, q _ _ (Int.fmod_nonneg_of_pos _ n0) (Int.fmod_lt_of_pos _ n0) D2 u2⟩
      · refine ⟨_, rfl, d, _, rfl, DGet.k (k := Sum.inr "turn") h1, _, rfl, d, _, rfl, DGet.k (k := Sum.inr "cells") h1, _, _, rfl, ?_⟩
        refine ⟨_, rfl, _, _, rfl, rfl, _, rfl, d, _, rfl, DPut.k (k := Sum.inr "turn") h1 (dr_lt g c r t), ?_⟩
        obtain ⟨D2, u2⟩ := put r (t + 1) (upd H1 d (.dK (putK (drL g c r t) (Sum.inr "turn") (.int (t + 1))))) rfl
        have h3' : (upd H1 d (.dK (putK (drL g c r t) (Sum.inr "turn") (.int (t + 1))))) c = some (.lst (cs.map V.int)) := by rw [upd_ne cd]; exact h3
        show tSeq _ _ _ _ (upd H1 d (.dK (putK (drL g c r t) (Sum.inr "turn") (.int (t + 1)))))
        generalize upd H1 d (.dK (putK (drL g c r t) (Sum.inr "turn") (.int (t + 1)))) = H2 at D2 u2 h3' ⊢
        have lp : 0 < cs.length := List.length_pos_iff.mpr h4
        obtain ⟨j, hj, ej⟩ : ∃ j : Nat, j < cs.length ∧ t.fmod (((cs.map V.int).length : Nat) : Int) = (j : Int) := by
          have a1 := Int.fmod_nonneg_of_pos t (show (0 : Int) < (((cs.map V.int).length : Nat) : Int) by rw [List.length_map]; omega)
          have a2 := Int.fmod_lt_of_pos t (show (0 : Int) < (((cs.map V.int).length : Nat) : Int) by rw [List.length_map]; omega)
          rw [List.length_map] at a1 a2
          exact ⟨(t.fmod (cs.length : Nat)).toNat, by omega, by rw [List.length_map]; omega⟩
        -- made
        refine ⟨_, rfl, _, rfl, _, rfl, c, _, rfl, .inl (sl h3'), _, _, rfl, rfl, (by rw [List.length_map]; omega), c, _, _, _, rfl, rfl, sl h3', by rw [ej]; exact atI_nat (by rw [List.getElem?_map, List.getElem?_eq_getElem hj]; rfl), ?_⟩
        refine ⟨_, rfl, _, _, rfl, rfl, .inl ⟨by decide, by decide⟩, _, _, rfl, rfl, _, _, rfl, rfl, _, _, rfl, rfl, .inr ⟨by decide, by decide⟩, _, _, rfl, rfl, (by show (0 : Int) < 2147483647; decide), ?_⟩
        generalize em : (cs[j] + 1299721 * t + 7919) * 48271 % 2147483647 = m
        have m0 : 0 ≤ m ∧ m < 2147483647 := by rw [← em]; exact ⟨Int.emod_nonneg _ (by decide), Int.emod_lt_of_pos _ (by decide)⟩
        -- prime
        refine ⟨by show 5 ≤ sizeLine; decide, fun e ne => ?_⟩
        have se : Same H2 (upd H2 e (.lst [.int 2147483629, .int 2147483587, .int 2147483579, .int 2147483563, .int 2147483549])) := same_upd ne
        have hee : (upd H2 e (.lst [.int 2147483629, .int 2147483587, .int 2147483579, .int 2147483563, .int 2147483549])) e = some (.lst [.int 2147483629, .int 2147483587, .int 2147483579, .int 2147483563, .int 2147483549]) := upd_same
        generalize upd H2 e (.lst [.int 2147483629, .int 2147483587, .int 2147483579, .int 2147483563, .int 2147483549]) = H3 at se hee ⊢
        obtain ⟨p, hp, p0⟩ : ∃ p : Int, atI [V.int 2147483629, .int 2147483587, .int 2147483579, .int 2147483563, .int 2147483549] (t % 5) = some (.int p) ∧ 0 < p := by
          have a1 := Int.emod_nonneg t (show (5 : Int) ≠ 0 by decide)
          have a2 := Int.emod_lt_of_pos t (show (0 : Int) < 5 by decide)
          rcases (by omega : t % 5 = 0 ∨ t % 5 = 1 ∨ t % 5 = 2 ∨ t % 5 = 3 ∨ t % 5 = 4) with z | z | z | z | z <;> rw [z]
          · exact ⟨_, atI_nat (j := 0) rfl, by decide⟩
          · exact ⟨_, atI_nat (j := 1) rfl, by decide⟩
          · exact ⟨_, atI_nat (j := 2) rfl, by decide⟩
          · exact ⟨_, atI_nat (j := 3) rfl, by decide⟩
          · exact ⟨_, atI_nat (j := 4) rfl, by decide⟩
        refine ⟨_, rfl, _, _, rfl, rfl, (by show (0 : Int) < 5; decide), e, _, _, _, rfl, rfl, sl hee, hp, ?_⟩
        -- the end
        refine ⟨_, rfl, _, rfl, _, rfl, _, _, rfl, rfl, .inl ⟨by decide, by decide⟩, _, _, rfl, rfl, _, _, rfl, rfl, _, _, rfl, rfl, .inl ⟨by omega, by omega⟩, _, rfl, _, _, rfl, rfl, (by omega), _, _, rfl, rfl, ⟨by decide, by decide⟩, _, rfl, _, _, rfl, rfl, (by omega), ?_⟩
        exact q _ _ (Int.fmod_nonneg_of_pos _ n0) (Int.fmod_lt_of_pos _ n0) (D2.same se) (u2.trans (Up.of se))
def spBegun (K : PySem.W.Frag) : Sp := fun vs H Q _ => ∃ (a : Addr) (ns : List Int), vs = [.ref a] ∧ SqL K H a (ns.map V.int) ∧ ns.length ≤ 63 ∧ ∀ d g c H', Same H H' → H d = none → H g = none → Dr H' d g c → Q (.ref d) H'
theorem ok_begun (T : Tp K w mg) : FnOk P w K mg base CX0 1 T.f_begun T.fd_begun ["_law_script"] (spBegun K) := by
  refine T.D_begun.F.ok sc_begun (fun vs H Q E h => ?_) (fun cdv A outer s H vs Q E hr h => ?_)
  · obtain ⟨a, ns, rfl, _⟩ := h
    rfl
  · obtain ⟨a, ns, rfl, hS, hl, q⟩ := h
    refine ⟨_, (pss_cons (ps_setLc (i := 1) (own := [("_law_cell", 2)]) (g := gName 2) (by rfl) sc_begun.nd rfl rfl (sw_true rfl rfl rfl (by decide +kernel)) (pi_list (pv 0)) (blkOk_by (own := [("_law_cell", 2)]) (N := ["_law_script", "_law_great", "_law_cell"]) (sc := defScope s_begun) (by decide +kernel)) (fun _ _ _ _ _ => (pg_name (i := 2) sc_begun.nd rfl (.inl rfl))) (fun _ _ _ _ _ => (pts_one (pt_cmpR op_ge (pv 2) (pe_op op_pow pe_int pe_int) (nomark _)))) (fun _ _ _ _ _ => (pv 2)))
  (pss_one (ps_ret (pe_disp (pps_cons pe_str (pv 1) (pps_cons pe_str pe_int (pps_cons pe_str (pe_op op_cat (pe_callTy call_list_of (by rfl) T.list (by decide +kernel) (pa_cons (pv 0) pa_nil)) (pe_lst (pa_cons (pe_op op_add (pe_callB call_len_seq (by rfl) T.len PySem.boot_len (pa_cons (pv 0) pa_nil)) pe_int) pa_nil))) (pps_cons pe_str pe_int pps_nil)))) (by rfl) (by rfl) (fun z => by cases z) (by decide))))), ?_⟩
    refine ⟨_, rfl, a, rfl, ⟨_, hS⟩, fun g ng => lc_it walk_list (fun i H2 => Same H H2 ∧ ∃ gs : List Int, H2 g = some (.lst (gs.map V.int)) ∧ gs.length ≤ i) ⟨same_upd ng, [], upd_same, Nat.le_refl _⟩ (fun i H2 _ z => z.1.seq hS) ?_ ?_⟩
    · rintro i x H2 H3 hi ⟨sm, gs, hg, hz⟩ ⟨rfl, hx⟩
      rw [List.length_map] at hi
      rw [List.getElem?_map, List.getElem?_eq_getElem hi] at hx
      cases hx
      refine ⟨rfl, _, rfl, _, _, rfl, rfl, ⟨by decide, by decide, by decide⟩, _, _, rfl, rfl, _, rfl, ite2 (fun _ => ?_) (fun _ => ?_)⟩
      · refine ⟨_, rfl, _, hg, by rw [List.length_map]; exact small1000 (by omega), sm.own ng, gs ++ [ns[i]], by rw [upd_same, List.map_append]; rfl, by rw [List.length_append]; show gs.length + 1 ≤ i + 1; omega⟩
      · exact ⟨sm, gs, hg, by omega⟩
    · rintro H2 ⟨sm, gs, hg, hz⟩
      rw [List.length_map] at hz
      refine fun d nd => ?_
      have s1 : Same H (upd H2 d (.dK [])) := sm.trans (same_upd nd)
      have hd : (upd H2 d (.dK [])) d = some (.dK []) := upd_same
      have hg1 : (upd H2 d (.dK [])) g = some (.lst (gs.map V.int)) := same_upd nd _ _ hg
      generalize upd H2 d (.dK []) = H3 at s1 hd hg1 ⊢
      refine ⟨_, rfl, _, rfl, a, _, rfl, .inl (s1.seq hS), fun l nl => ?_⟩
      have s2 := same_upd (o := .lst (ns.map V.int)) nl
      have hl2 : (upd H3 l (.lst (ns.map V.int))) l = some (.lst (ns.map V.int)) := upd_same
      generalize upd H3 l (.lst (ns.map V.int)) = H4 at s2 hl2 ⊢
      refine ⟨_, rfl, a, _, rfl, .inl ((s1.trans s2).seq hS), _, _, rfl, rfl, (by show 1 ≤ sizeLine; decide), fun m nm => ?_⟩
      have s3 := same_upd (o := .lst [.int ((((ns.map V.int).length : Nat) : Int) + 5)]) nm
      have hm3 : (upd H4 m (.lst [.int ((((ns.map V.int).length : Nat) : Int) + 5)])) m = some (.lst [.int ((((ns.map V.int).length : Nat) : Int) + 5)]) := upd_same
      refine ⟨l, m, _, _, rfl, rfl, s3 _ _ hl2, hm3, Nat.le_trans (show _ ≤ 1000 by rw [List.length_map]; show ns.length + 1 ≤ 1000; omega) (by decide), fun c nc => ?_⟩
      have s4 := same_upd (o := .lst (ns.map V.int ++ [.int ((((ns.map V.int).length : Nat) : Int) + 5)])) nc
      have hc : (upd (upd H4 m (.lst [.int ((((ns.map V.int).length : Nat) : Int) + 5)])) c (.lst (ns.map V.int ++ [.int ((((ns.map V.int).length : Nat) : Int) + 5)]))) c = some (.lst ((ns ++ [(((ns.map V.int).length : Nat) : Int) + 5]).map V.int)) := by rw [upd_same, List.map_append]; rfl
      have s34 := s2.trans (s3.trans s4)
      show _ ∧ ∃ kvs : List (Key × V), _
      generalize upd (upd H4 m (.lst [.int ((((ns.map V.int).length : Nat) : Int) + 5)])) c (.lst (ns.map V.int ++ [.int ((((ns.map V.int).length : Nat) : Int) + 5)])) = H5 at s34 hc ⊢
      refine ⟨s34 _ _ hd, drL g c 0 0, rfl, by show 4 ≤ 15; decide, ?_⟩
      have nd0 : H d = none := sm.free nd
      have gd : g ≠ d := ne_of_none hg nd
      have cd : c ≠ d := ne_of hc (s34 _ _ hd) (by intro z; cases z)
      have gc : g ≠ c := ne_of_none ((s2.trans s3) _ _ hg1) nc
      refine q d g c _ ((s1.trans s34).own nd0) nd0 ng ⟨gs, ns ++ [(((ns.map V.int).length : Nat) : Int) + 5], 0, 0, upd_same, ?_, ?_, by simp, by omega, ?_, gc⟩
      · rw [upd_ne gd]; exact s34 _ _ hg1
      · rw [upd_ne cd]; exact hc
      · rw [List.length_append]; show ns.length + 1 ≤ 1000; omega
end
end T06
namespace T06
open PySem PySem.Spec PyProof.Rows L2 HX HB HG HU HH HD HS HV HQ TL
/-! ### names -/
theorem join_name {cs : List Nat} (h1 : 1 ≤ cs.length) (h6 : cs.length ≤ 6) (hl : ∀ c ∈ cs, isLow c = true) : isNameL (Txt.join Str.empty (cs.map sg)) = true := by
  have e := join_sg cs
  have el : (Txt.join Str.empty (cs.map sg)).length = cs.length := by
    have := congrArg List.length e
    rw [Array.length_toList] at this
    exact this
  unfold isNameL
  rw [el, e, decide_eq_true h1, decide_eq_true h6, List.all_eq_true.mpr hl]
  rfl
theorem sg_sum : ∀ cs : List Nat, ((cs.map sg).map (·.length)).sum = cs.length
  | [] => rfl
  | c :: cs => by
    rw [List.map_cons, List.map_cons, List.sum_cons, sg_sum cs, List.length_cons]
    show 1 + cs.length = cs.length + 1
    omega
theorem letters_at {j : Nat} (h : j < 26) : atI ("abcdefghijklmnopqrstuvwxyz" : Str).cps.toList (j : Int) = some (j + 97) := by
  refine atI_nat ?_
  have e : ("abcdefghijklmnopqrstuvwxyz" : Str).cps.toList = (List.range 26).map (· + 97) := by decide +kernel
  rw [e, List.getElem?_map, List.getElem?_range h]
  rfl
section
variable {P : Program} {w : World} {K : PySem.W.Frag} {mg : Str → Option Value} {base : Heap}
def spNm : Sp := fun vs H Q _ => ∃ (d g c : Addr), vs = [.ref d] ∧ Dr H d g c ∧ ∀ z H', isNameL z = true → Dr H' d g c → Up d g H H' → Q (.str z) H'
def own13 : List Str := ["put", "read", "write", "tell", "send", "take", "hold", "rest", "nest", "within", "start", "off", "shield"]
def own13b : List Str := ["fail", "catch", "try", "if", "often", "cell", "lock", "sum", "minus", "less", "clock", "a", "ab"]
def own26 : List Str := own13 ++ own13b
theorem own_names : ∀ z ∈ own26, isNameL z = true := by decide +kernel
theorem ok_name (T : Tp K w mg) : FnOk P w K mg base CX0 2 T.f_name T.fd_name ["_law_draw"] spNm := by
  refine T.D_name.F.ok sc_name (fun vs H Q E h => ?_) (fun cdv A outer s H vs Q E hr h => ?_)
  · obtain ⟨d, g, c, rfl, _⟩ := h
    rfl
  · obtain ⟨d, g, c, rfl, D, q⟩ := h
    refine ⟨_, (pss_cons (ps_set (i := 1) sc_name.nd rfl (.inl rfl) (pe_lst (pa_cons pe_str (pa_cons pe_str (pa_cons pe_str (pa_cons pe_str (pa_cons pe_str (pa_cons pe_str (pa_cons pe_str (pa_cons pe_str (pa_cons pe_str (pa_cons pe_str (pa_cons pe_str (pa_cons pe_str (pa_cons pe_str pa_nil)))))))))))))))
  (pss_cons (ps_set (i := 1) sc_name.nd rfl (.inl rfl) (pe_op op_cat (pv 1) (pe_lst (pa_cons pe_str (pa_cons pe_str (pa_cons pe_str (pa_cons pe_str (pa_cons pe_str (pa_cons pe_str (pa_cons pe_str (pa_cons pe_str (pa_cons pe_str (pa_cons pe_str (pa_cons pe_str (pa_cons pe_str (pa_cons pe_str pa_nil))))))))))))))))
  (pss_cons (ps_set (i := 2) sc_name.nd rfl (.inl rfl) (pe_ix ix_list (pv 1) (pcall T.D_next (ok_next T) hr (by rfl) (pa_cons (pv 0) (pa_cons pe_int pa_nil))) (fun _ _ => rfl)))
  (pss_cons (ps_par (i := 3) (j := 4) rfl sc_name.nd rfl rfl (by decide) rfl rfl (pa_cons (pe_op op_add pe_int (pcall T.D_next (ok_next T) hr (by rfl) (pa_cons (pv 0) (pa_cons pe_int pa_nil)))) (pa_cons (pcall T.D_next (ok_next T) hr (by rfl) (pa_cons (pv 0) (pa_cons pe_int pa_nil))) pa_nil)) (by rfl))
  (pss_cons (ps_setLc (i := 5) (own := [("_law_k", 6)]) (g := gName 6) (by rfl) sc_name.nd rfl rfl (sw_true rfl rfl rfl (by decide +kernel)) (pi_range1 (by rfl) T.range (pa_cons (pv 3) pa_nil)) (blkOk_by (own := [("_law_k", 6)]) (N := ["_law_draw", "_law_own", "_law_name_here", "_law_many", "_law_way", "_law_letters", "_law_k"]) (sc := defScope s_name) (by decide +kernel)) (fun _ _ _ _ _ => (pg_name (i := 6) sc_name.nd rfl (.inl rfl))) (fun _ _ _ _ _ => pts_nil) (fun _ _ _ _ _ => (pe_ix ix_str pe_str (pcall T.D_next (ok_next T) hr (by rfl) (pa_cons (pv 0) (pa_cons pe_int pa_nil))) (fun _ _ => rfl))))
  (pss_one (ps_ret (pe_ifExp (pt_cmpR op_eq (pv 4) pe_int (nomark _)) (pv 2) (pe_join pe_str (pv 5)))))))))), ?_⟩
    refine ⟨by show 13 ≤ sizeLine; decide, fun o no => ?_⟩
    have s1 := same_upd (o := .lst (own13.map V.str)) no
    have h1 : (upd H o (.lst (own13.map V.str))) o = some (.lst (own13.map V.str)) := upd_same
    show tSeq _ _ _ _ (upd H o (.lst (own13.map V.str)))
    generalize upd H o (.lst (own13.map V.str)) = H1 at s1 h1 ⊢
    refine ⟨_, rfl, by show 13 ≤ sizeLine; decide, fun o2 no2 => ?_⟩
    have s2 := same_upd (o := .lst (own13b.map V.str)) no2
    have h2 : (upd H1 o2 (.lst (own13b.map V.str))) o2 = some (.lst (own13b.map V.str)) := upd_same
    show rCat _ _ (upd H1 o2 (.lst (own13b.map V.str))) _
    generalize upd H1 o2 (.lst (own13b.map V.str)) = H2 at s2 h2 ⊢
    refine ⟨o, o2, _, _, rfl, rfl, s2 _ _ h1, h2, by show 26 ≤ sizeLine; decide, fun O nO => ?_⟩
    have s3 := same_upd (o := .lst (own26.map V.str)) nO
    have hO : (upd H2 O (.lst (own26.map V.str))) O = some (.lst (own26.map V.str)) := upd_same
    have s13 := (s1.trans s2).trans s3
    show tSeq _ _ _ _ (upd H2 O (.lst (own26.map V.str)))
    generalize upd H2 O (.lst (own26.map V.str)) = H3 at s13 hO ⊢
    have D3 := D.same s13
    have OD := (D.same (s1.trans s2)).apart nO
    have u3 : Up d g H H3 := Up.of s13
    -- name_here
    refine ⟨_, rfl, _, rfl, d, g, c, 26, rfl, D3, by decide, by decide, fun r H4 r0 r1 D4 u4 => ?_⟩
    obtain ⟨j, rfl⟩ : ∃ j : Nat, r = (j : Int) := ⟨r.toNat, by omega⟩
    have hj : j < own26.length := by show j < 26; omega
    refine ⟨O, _, _, .str own26[j], rfl, rfl, sl (u4 _ _ hO OD.1 OD.2.1), atI_nat (by rw [List.getElem?_map, List.getElem?_eq_getElem hj]; rfl), ?_⟩
    have hnm := own_names _ (List.getElem_mem hj)
    generalize own26[j] = nm at hnm ⊢
    -- many, way
    refine ⟨_, rfl, d, g, c, 6, rfl, D4, by decide, by decide, fun m H5 m0 m1 D5 u5 => ⟨_, _, rfl, rfl, ?_⟩⟩
    refine ⟨_, rfl, d, g, c, 3, rfl, D5, by decide, by decide, fun way H6 w0 w1 D6 u6 => ⟨_, _, rfl, ?_⟩⟩
    have u36 := ((u3.trans u4).trans u5).trans u6
    -- letters
    refine ⟨_, rfl, 1 + m, rfl, by omega, by omega, fun L nL => ?_⟩
    have LD := D6.apart nL
    refine lc_it walk_range (fun i H2 => Dr H2 d g c ∧ Up d g H6 H2 ∧ ∃ cs : List Nat, H2 L = some (.lst ((cs.map sg).map V.str)) ∧ cs.length = i ∧ ∀ x ∈ cs, isLow x = true) ⟨D6.same (same_upd nL), Up.of (same_upd nL), [], upd_same, rfl, fun _ z => by cases z⟩ (fun _ _ _ _ => trivial) ?_ ?_
    · rintro i x H7 H8 hi ⟨D7, u7, cs, hL, hcs, hlow⟩ ⟨rfl, rfl⟩
      refine ⟨rfl, _, rfl, d, g, c, 26, rfl, D7, by decide, by decide, fun r H9 r0 r1 D9 u9 => ?_⟩
      obtain ⟨k, rfl⟩ : ∃ k : Nat, r = (k : Int) := ⟨r.toNat, by omega⟩
      refine ⟨_, _, _, rfl, rfl, by show 26 ≤ sizeLine; decide, letters_at (by omega), _, u9 _ _ hL LD.1 LD.2.1, ?_, ?_, ?_, cs ++ [k + 97], ?_, ?_, ?_⟩
      · rw [List.length_map, List.length_map]; exact small1000 (by omega)
      · exact D9.set LD.1 LD.2.1 LD.2.2
      · exact (u7.trans u9).own nL
      · rw [upd_same, List.map_append, List.map_append]; rfl
      · rw [List.length_append, hcs]; rfl
      · intro y hy
        rcases List.mem_append.mp hy with hy | hy
        · exact hlow y hy
        · rw [List.mem_singleton.mp hy]
          unfold isLow
          rw [decide_eq_true (by omega), decide_eq_true (by omega)]
          rfl
    · rintro H7 ⟨D7, u7, cs, hL, hcs, hlow⟩
      refine ⟨_, rfl, rfl, _, rfl, ite2 (fun _ => ?_) (fun _ => ?_)⟩
      · exact ⟨_, rfl, q _ _ hnm D7 (u36.trans u7)⟩
      · refine ⟨⟨_, rfl⟩, _, rfl, _, L, _, rfl, rfl, .inl (sl hL), ?_, ?_⟩
        · rw [sg_sum, List.length_map, show (Str.ofString "").length = 0 from rfl]
          omega
        · exact q _ _ (join_name (by omega) (by omega) hlow) D7 (u36.trans u7)
end
end T06
namespace T06
open PySem PySem.Spec PyProof.Rows L2 HX HB HG HU HH HD HS HV HQ
section
variable {P : Program} {w : World} {K : PySem.W.Frag} {mg : Str → Option Value} {base : Heap}
theorem kb_prog (T : Tp K w mg) : KBn K T.fd_prog ["self", "body", "cells", "locks", "channels"] 2 ["cells", "locks", "channels"] (fun us ws => us ++ ws) (fun vs zs => vs ++ zs) := by
  obtain ⟨mv, h⟩ := T.D_prog.kbinds0 (ps := ["self", "body", "cells", "locks", "channels"]) 2 ["cells", "locks", "channels"] [] (fun us _ ws => us ++ ws) (List.cons_ne_nil _ _) (fun q h => by cases h) (fun a _ c => a.append c)
    (fun D doc pm an cdv ct us mv ws h1 h2 h3 => match us, ws, mv, h1, h2, h3 with | [_, _], [_, _, _], [], _, _, _ => rfl)
  exact h
theorem ArgD.same {H H' : Hp} {v : V} {kvs : List (Str × Int)} (h : ArgD H v kvs) (s : Same H H') : ArgD H' v kvs := by
  rcases h with h | ⟨a, e, h⟩
  · exact .inl h
  · exact .inr ⟨a, e, s _ _ h⟩
theorem ArgL.same {H H' : Hp} {v : V} {zs : List Str} (h : ArgL H v zs) (s : Same H H') : ArgL H' v zs := by
  rcases h with h | ⟨a, e, h⟩
  · exact .inl h
  · exact .inr ⟨a, e, s _ _ h⟩
def spRef (K : PySem.W.Frag) : Sp := fun vs H Q _ => ∃ (b vc vl vw : V) (d : PyData) (cs : List (Str × Int)) (ls : List Str) (ws : List (Str × Int)), vs = [b, vc, vl, vw] ∧ Dp K H b d ∧ Good d 30 ∧
  ArgD H vc cs ∧ OkD cs ∧ ArgL H vl ls ∧ ls.length ≤ 100 ∧ (∀ z ∈ ls, okD (.str z) = true) ∧ ArgD H vw ws ∧ OkD ws ∧ (placesD 30 (rowsD d) []).length ≤ sizeLine ∧
  ∀ v H', Same H H' → Res K H' (progD 30 cs ls ws d) v → Q v H'
theorem ok_refused (T : Tp K w mg) : FnOk P w K mg base CX0 69 T.f_refused T.fd_refused ["_law_rows", "_law_cells_told", "_law_locks_told", "_law_lanes_told"] (spRef K) := by
  refine T.D_refused.F.ok sc_refused (fun vs H Q E h => ?_) (fun cdv A outer s H vs Q E hr h => ?_)
  · obtain ⟨b, vc, vl, vw, d, cs, ls, ws, rfl, _⟩ := h
    rfl
  · obtain ⟨b, vc, vl, vw, d, cs, ls, ws, rfl, hd, good, hc, okc, hl, fewl, okl, hw, okw, hsz, q⟩ := h
    refine ⟨_, (pss_cons (ps_set (i := 4) sc_refused.nd rfl (.inl rfl) pe_non)
  (pss_cons (ps_try_as (i := 5) rfl rfl sc_refused.nd rfl rfl ⟨by rfl, by decide, .inl T.gC_NoProgram⟩ takes0 (fun W pn xe tk _ => (pss_one (ps_expr (HQ.pe_makeS T.mk_Program (ok_prog T 30 (by decide)) (hr.mono (by omega)) (by rfl) T.gC_Program (kb_prog T) tk (pa_cons (pv 0) pa_nil) (pk_cons (pv 1) (pk_cons (pv 2) (pk_cons (pv 3) pk_nil)))))))
  (fun a oe cls d pn hz hf => (pss_one (ps_set (i := 4) sc_refused.nd rfl (.inl rfl) (pe_xf T.xf_NoProgram T.na_NoProgram_place hz hf (pv 5))))))
  (pss_one (ps_ret (pv 4))))), ?_⟩
    refine ⟨_, rfl, _, rfl, _, rfl, _, rfl, rfl, rfl, fun x dx nx ndx dne => ?_⟩
    have s1 : Same H (upd (upd H dx (.own x)) x (.ins T.C_Program dx [])) := (same_upd ndx).own nx
    refine ⟨x, dx, b, d, vc, vl, vw, cs, ls, ws, rfl, upd_same, s1.dp hd, good, hc.same s1, okc, hl.same s1, fewl, okl, hw.same s1, okw, hsz, fun H' v1 => ?_⟩
    have s2 : Same H H' := fun a o h => v1 _ _ (s1 _ _ h) (ne_of_none h nx)
    cases e : progD 30 cs ls ws d with
    | none =>
      rw [e] at q
      exact fun po => ⟨rfl, _, rfl, q _ _ s2 rfl⟩
    | some pl =>
      rw [e] at q
      exact fun t dd ht hx nd => ⟨true, T.ee_NoProgram, fun _ a na => ⟨_, rfl, rfl, rfl, dd, _, _, rfl, hx, rfl, _, rfl, q _ _ s2 ⟨t, rfl, ht⟩⟩, fun h => by cases h⟩
end
end T06
namespace T06
open PySem PySem.Spec PyProof.Rows L2 HX HB HG HU HH HD HS HV HQ
section
variable {P : Program} {w : World} {K : PySem.W.Frag} {mg : Str → Option Value} {base : Heap}
def resP : Option (List Int) → PyData
  | none => .none
  | some pl => .tuple (pl.map .int)
theorem res_dp {H : Hp} {r : Option (List Int)} {v : V} (h : Res K H r v) : Dp K H v (resP r) := by
  cases r with
  | none => subst h; exact .non
  | some pl => obtain ⟨t, rfl, h⟩ := h; exact .tup h (dp_ints pl)
/-- a place whose numbers are short -/
def Short (r : Option (List Int)) : Prop := ∀ pl, r = some pl → pl.length ≤ 100 ∧ ∀ i ∈ pl, 0 ≤ i ∧ i < 100
theorem int_leaf : ∀ i : Fin 100, PyData.leavesShort 8 (.int (i.val : Nat)) = true ∧ PyData.showable (.int (i.val : Nat)) = true := by decide +kernel
theorem ints_leaf : ∀ pl : List Int, (∀ i ∈ pl, 0 ≤ i ∧ i < 100) → PyData.leavesShortAll 8 (pl.map .int) = true ∧ PyData.showableAll (pl.map .int) = true ∧ PyData.hasDictAll (pl.map .int) = false ∧ PyData.bulkAll (pl.map .int) = pl.length ∧ PyData.depthAll (pl.map .int) = 0
  | [], _ => ⟨rfl, rfl, rfl, rfl, rfl⟩
  | i :: pl, h => by
    obtain ⟨h1, h2, h3, h4, h5⟩ := ints_leaf pl fun j hj => h j (List.mem_cons_of_mem _ hj)
    obtain ⟨g1, g2⟩ := h i (List.mem_cons_self ..)
    obtain ⟨n, rfl⟩ : ∃ n : Nat, i = (n : Int) := ⟨i.toNat, by omega⟩
    obtain ⟨k1, k2⟩ := int_leaf ⟨n, by omega⟩
    simp only [List.map_cons, PyData.leavesShortAll, PyData.showableAll, PyData.hasDictAll, PyData.bulkAll, PyData.depthAll, h1, h2, h3, h4, h5, List.length_cons, PyData.depth, PyData.bulk, PyData.hasDict]
    refine ⟨by rw [k1]; rfl, by rw [k2]; rfl, rfl, by omega, rfl⟩
theorem resP_leaf {r : Option (List Int)} (h : Short r) : PyData.leavesShort 8 (resP r) = true ∧ PyData.showable (resP r) = true ∧ PyData.hasDict (resP r) = false ∧ PyData.bulk (resP r) ≤ 100 ∧ PyData.depth (resP r) ≤ 1 := by
  cases r with
  | none => exact ⟨rfl, rfl, rfl, Nat.zero_le _, Nat.zero_le _⟩
  | some pl =>
    obtain ⟨l, hi⟩ := h pl rfl
    obtain ⟨h1, h2, h3, h4, h5⟩ := ints_leaf pl hi
    exact ⟨h1, h2, h3, by show PyData.bulkAll _ ≤ 100; omega, by show PyData.depthAll _ + 1 ≤ 1; omega⟩
theorem disp_ok {d : PyData} (h1 : PyData.leavesShort 8 d = true) (h2 : PyData.showable d = true) (h3 : PyData.hasDict d = false) (h4 : PyData.bulk d ≤ 1000) (h5 : PyData.depth d ≤ 60) (h6 : isDisplay d = true) :
    isDisplay d = true ∧ d.showable = true ∧ d.hasDict = false ∧ d.depth ≤ 60 ∧ d.shown.length ≤ sizeLine :=
  ⟨h6, h2, h3, h5, PyData.shown_fits_bulk (B := 8) (by decide) (by decide) h1 (Nat.le_trans h4 (by decide))⟩
theorem two_ok {r : Option (List Int)} (h : Short r) : isDisplay (.tuple [resP r, resP r]) = true ∧ PyData.showable (.tuple [resP r, resP r]) = true ∧ PyData.hasDict (.tuple [resP r, resP r]) = false ∧ PyData.depth (.tuple [resP r, resP r]) ≤ 60 ∧ (PyData.shown (.tuple [resP r, resP r])).length ≤ sizeLine := by
  obtain ⟨h1, h2, h3, h4, h5⟩ := resP_leaf h
  refine disp_ok ?_ ?_ ?_ ?_ ?_ rfl
  · simp only [PyData.leavesShort, PyData.leavesShortAll, h1, Bool.and_self]
  · simp only [PyData.showable, PyData.showableAll, h2, Bool.and_self]
  · simp only [PyData.hasDict, PyData.hasDictAll, h3, Bool.or_self]
  · simp only [PyData.bulk, PyData.bulkAll]; omega
  · simp only [PyData.depth, PyData.depthAll]; omega
def spRight (K : PySem.W.Frag) : Sp := fun vs H Q _ => ∃ (b v : V) (d : PyData) (r : Option (List Int)), vs = [b, v] ∧ Dp K H b d ∧ Good d 30 ∧ (placesD 30 (rowsD d) []).length ≤ sizeLine ∧ Res K H r v ∧ Short r ∧
  firstD [] [] [] 30 d = r ∧ progD 30 [] [] [] d = r ∧ ∀ H', Same H H' → Q (.bl true) H'
theorem okD0 : OkD [] := ⟨List.nodup_nil, by decide, fun _ h => by cases h⟩
theorem ok_right (T : Tp K w mg) : FnG P w K mg base CX0 70 T.f_right T.fd_right ["_law_rows", "_law_due"] (spRight K) := by
  refine okGn T.D_right.F sc_right (fun vs H Q E h => ?_) (fun cdv A outer s H vs Q E sh hr h => ?_)
  · obtain ⟨b, v, d, r, rfl, _⟩ := h
    rfl
  · obtain ⟨b, v, d, r, rfl, hd, good, hsz, hv, hsh, e1, e2, q⟩ := h
    obtain ⟨dsF, hvF, hbF⟩ := T.D_first.binds0 (ps := ["body", "cells", "locks", "channels"]) 1 (List.cons_ne_nil _ _) rfl
      (fun D doc pm an cdv ct us ks h1 h2 => match us, ks, h1, h2 with | [_], [_, _, _], _, _ => ⟨_, _, _, _, _, _, rfl, rfl, _, _, _, _, _, _, rfl, rfl, _, _, _, _, _, _, rfl, rfl, rfl⟩)
    refine ⟨_, (pss_one (ps_ret (pe_cmpR op_eq (pe_callB (call_reprD sh hr.units) (by rfl) T.repr (by decide +kernel) (pa_cons (pe_tup (pa_cons (pe_call (ok_first T 30 (by decide)) (hr.mono (by omega)) (by rfl) T.g_first T.D_first.kp hbF hvF pass0 (pa_cons (pv 0) pa_nil)) (pa_cons (pcall T.D_refused (ok_refused T) (hr.mono (by omega)) (by rfl) (pa_cons (pv 0) (pa_cons pe_non (pa_cons pe_non (pa_cons pe_non pa_nil))))) pa_nil))) pa_nil)) (pe_callB (call_reprD sh hr.units) (by rfl) T.repr (by decide +kernel) (pa_cons (pe_tup (pa_cons (pv 1) (pa_cons (pv 1) pa_nil))) pa_nil)) (nomark _)))), ?_⟩
    obtain ⟨t1, t2, t3, t4, t5⟩ := two_ok hsh
    refine ⟨_, rfl, b, d, _, _, _, [], [], [], rfl, hd, good, T.dt_first_cells H, T.dt_first_locks H, T.dt_first_channels H, fun v1 H1 s1 r1 => ?_⟩
    rw [e1] at r1
    refine ⟨_, rfl, b, .non, .non, .non, d, [], [], [], rfl, s1.dp hd, good, .inl ⟨rfl, rfl⟩, okD0, .inl ⟨rfl, rfl⟩, Nat.zero_le _, (fun _ h => by cases h), .inl ⟨rfl, rfl⟩, okD0, hsz, fun v2 H2 s2 r2 => ?_⟩
    rw [e2] at r2
    refine ⟨by show 2 ≤ sizeLine; decide, fun p np => ?_⟩
    have s3 := same_upd (o := .tup [v1, v2]) np
    refine ⟨_, .tuple [resP r, resP r], rfl, .tup (stt upd_same) (.cons (s3.dp (s2.dp (res_dp r1))) (.cons (s3.dp (res_dp r2)) .nil)), t1, t2, t3, t4, t5, ?_⟩
    have s13 := (s1.trans s2).trans s3
    generalize upd H2 p (.tup [v1, v2]) = H3 at s13 ⊢
    refine ⟨_, rfl, _, rfl, by show 2 ≤ sizeLine; decide, fun p4 np4 => ?_⟩
    have s4 := same_upd (o := .tup [v, v]) np4
    refine ⟨_, .tuple [resP r, resP r], rfl, .tup (stt upd_same) (.cons ((s13.trans s4).dp (res_dp hv)) (.cons ((s13.trans s4).dp (res_dp hv)) .nil)), t1, t2, t3, t4, t5, ?_⟩
    refine ⟨rfl, ?_⟩
    rw [decide_eq_true rfl]
    exact q _ (s13.trans s4)
end
end T06
namespace T06
open PySem PySem.Spec PyProof.Rows L2 HX HB HG HU HH HD HS HV HQ TL
/-! ### texts of small letters -/
structure Low (z : Str) : Prop where
  low : ∀ c ∈ z.cps.toList, isLow c = true
  few : z.length ≤ 1000
theorem Low.of {z : Str} (h : isNameL z = true) : Low z := by
  unfold isNameL at h
  simp only [Bool.and_eq_true, decide_eq_true_eq, List.all_eq_true] at h
  exact ⟨h.2, by omega⟩
theorem Low.name {z : Str} (h : Low z) (h1 : 1 ≤ z.length) (h6 : z.length ≤ 6) : isNameL z = true := by
  unfold isNameL
  rw [decide_eq_true h1, decide_eq_true h6, List.all_eq_true.mpr h.low]
  rfl
theorem Low.ok {z : Str} (h : Low z) : okD (.str z) = true := by
  have := h.few
  simp only [okD, decide_eq_true_eq]
  omega
theorem isLow_lt {c : Nat} (h : isLow c = true) : 97 ≤ c ∧ c ≤ 122 := by
  unfold isLow at h
  simpa [Bool.and_eq_true] using h
theorem Low.lay {z : Str} (h : Low z) : PyData.canLay0 (.str z) = true := by
  show z.cps.all (fun c => decide (c < 0x110000)) = true
  rw [← Array.all_toList, List.all_eq_true]
  intro c hc
  have := isLow_lt (h.low c hc)
  exact decide_eq_true (by omega)
theorem low_app {x y : Str} (hx : Low x) (hy : Low y) (h : x.length + y.length ≤ 1000) : Low (x ++ y) := by
  refine ⟨fun c hc => ?_, by rw [strLen_append]; exact h⟩
  rw [show (x ++ y).cps.toList = x.cps.toList ++ y.cps.toList from tl_append x y] at hc
  rcases List.mem_append.mp hc with hc | hc
  · exact hx.low c hc
  · exact hy.low c hc
theorem low_sg {k : Nat} (h : k < 26) : Low (sg (k + 97)) := by
  refine ⟨fun c hc => ?_, by show 1 ≤ 1000; decide⟩
  have : c = k + 97 := by simpa [sg] using hc
  subst this
  unfold isLow
  rw [decide_eq_true (by omega), decide_eq_true (by omega)]
  rfl
theorem low_cut {z : Str} (h : Low z) (lo hi : Option Int) : Low (cutS z lo hi) := by
  refine ⟨fun c hc => h.low c ?_, Nat.le_trans (cutS_length z lo hi) h.few⟩
  unfold cutS at hc
  exact List.mem_of_mem_drop (List.mem_of_mem_take (by simpa using hc))
theorem cut_last {z : Str} (h : z.length ≤ 6) : cutS z (some (-6)) none = z := by
  unfold cutS
  have e : HT.sIx z.length 0 (some (-6)) = 0 := by
    show (if (-6 : Int) < 0 then ((-6 : Int) + (z.length : Int)).toNat else min (-6 : Int).toNat z.length) = 0
    rw [if_pos (by decide)]
    omega
  rw [e, HT.sIx_none, List.drop_zero, Nat.sub_zero, show z.length = z.cps.toList.length by simp [Str.length], List.take_length]
/-! ### data that is fit -/
theorem Good.str {z : Str} (h : Low z) (n : Nat) : Good (.str z) n := ⟨h.ok, h.lay, Nat.zero_le _⟩
theorem Good.int (i : Int) (n : Nat) : Good (.int i) n := ⟨rfl, rfl, Nat.zero_le _⟩
theorem okAll_of : ∀ {xs : List PyData}, (∀ x ∈ xs, okD x = true) → okAll xs = true
  | [], _ => rfl
  | x :: xs, h => by
    simp only [okAll, Bool.and_eq_true]
    exact ⟨h x (List.mem_cons_self ..), okAll_of fun y hy => h y (List.mem_cons_of_mem _ hy)⟩
theorem layAll_of : ∀ {xs : List PyData}, (∀ x ∈ xs, PyData.canLay0 x = true) → PyData.canLayAll0 xs = true
  | [], _ => rfl
  | x :: xs, h => by
    simp only [PyData.canLayAll0, Bool.and_eq_true]
    exact ⟨h x (List.mem_cons_self ..), layAll_of fun y hy => h y (List.mem_cons_of_mem _ hy)⟩
theorem depAll_of {n : Nat} : ∀ {xs : List PyData}, (∀ x ∈ xs, PyData.depth x ≤ n) → PyData.depthAll xs ≤ n
  | [], _ => Nat.zero_le _
  | x :: xs, h => by
    simp only [PyData.depthAll]
    have h1 := h x (List.mem_cons_self ..)
    have h2 := depAll_of fun y hy => h y (List.mem_cons_of_mem _ hy)
    omega
theorem Good.tup {xs : List PyData} {n : Nat} (h : ∀ x ∈ xs, Good x n) (l : xs.length ≤ 10000) : Good (.tuple xs) (n + 1) := by
  refine ⟨?_, layAll_of fun x hx => (h x hx).lay, ?_⟩
  · simp only [okD, Bool.and_eq_true, decide_eq_true_eq]
    exact ⟨l, okAll_of fun x hx => (h x hx).ok⟩
  · have := depAll_of fun x hx => (h x hx).dep
    show PyData.depthAll xs + 1 ≤ n + 1
    omega
/-! ### displays: new tuples, new lists -/
section
variable {K : PySem.W.Frag} {H : Hp}
theorem new_tup {xs : List V} {ds : List PyData} {p : Addr} (np : H p = none) (hx : DpAll K H xs ds) : Same H (upd H p (.tup xs)) ∧ Dp K (upd H p (.tup xs)) (.ref p) (.tuple ds) :=
  ⟨same_upd np, .tup (stt upd_same) ((same_upd np).dpAll hx)⟩
theorem new_lst {xs : List V} {p : Addr} (np : H p = none) : Same H (upd H p (.lst xs)) ∧ (upd H p (.lst xs)) p = some (.lst xs) := ⟨same_upd np, upd_same⟩
end
/-! ### a row in others -/
def layer (nm sc : Str) (w : Nat) (d : PyData) : PyData :=
  if w = 0 then .tuple [.str "shield", .tuple [d]] else if w = 1 then .tuple [.str "try", .tuple [d], .tuple []] else if w = 2 then .tuple [.str "try", .tuple [], .tuple [d]]
  else if w = 3 then .tuple [.str "catch", .tuple [], .str nm, .tuple [d]] else if w = 4 then .tuple [.str "nest", .str sc, .tuple [d]] else if w = 5 then .tuple [.str "if", .int 1, .tuple [d], .tuple []]
  else if w = 6 then .tuple [.str "if", .int 0, .tuple [], .tuple [d]] else .tuple [.str "within", .int 5, .str sc, .tuple [d]]
def whichW (w : Nat) : Int := if w = 2 ∨ w = 3 ∨ w = 6 then 1 else 0
def scn (nm : Str) (k : Nat) : Str := nm ++ sg (k + 97)
def nestD (nm : Str) (d : PyData) : List Nat → PyData
  | [] => d
  | w :: r => layer nm (scn nm r.length) w (nestD nm d r)
def placeW : List Nat → List Int
  | [] => []
  | w :: r => whichW w :: 0 :: placeW r
theorem placeW_len : ∀ ws, (placeW ws).length = 2 * ws.length
  | [] => rfl
  | w :: r => by
    show (placeW r).length + 1 + 1 = 2 * (r.length + 1)
    rw [placeW_len r]
    omega
theorem str_lit {z : Str} (h : (decide (z.length ≤ 20) && z.cps.toList.all isLow) = true) : Low z := by
  simp only [Bool.and_eq_true, decide_eq_true_eq, List.all_eq_true] at h
  exact ⟨h.2, by omega⟩
theorem good_layer {nm sc : Str} {w n : Nat} {d : PyData} (hn : Low nm) (hs : Low sc) (g : Good d n) : Good (layer nm sc w d) (n + 2) := by
  have b : Good (.tuple [d]) (n + 1) := Good.tup (fun x hx => by rw [List.mem_singleton.mp hx]; exact g) (by show 1 ≤ 10000; decide)
  have e : Good (.tuple []) (n + 1) := Good.tup (fun x hx => by cases hx) (by decide)
  have s : ∀ z : Str, (decide (z.length ≤ 20) && z.cps.toList.all isLow) = true → Good (.str z) (n + 1) := fun z h => Good.str (str_lit h) _
  have i : ∀ j : Int, Good (.int j) (n + 1) := fun j => Good.int j _
  have hn' : Good (.str nm) (n + 1) := Good.str hn _
  have hs' : Good (.str sc) (n + 1) := Good.str hs _
  unfold layer
  have two : ∀ {x y : PyData}, Good x (n + 1) → Good y (n + 1) → Good (.tuple [x, y]) (n + 2) := fun hx hy => Good.tup (fun z hz => by
    rcases List.mem_cons.mp hz with rfl | hz
    · exact hx
    · rw [List.mem_singleton.mp hz]; exact hy) (by show 2 ≤ 10000; decide)
  have three : ∀ {x y z : PyData}, Good x (n + 1) → Good y (n + 1) → Good z (n + 1) → Good (.tuple [x, y, z]) (n + 2) := fun hx hy hz => Good.tup (fun u hu => by
    rcases List.mem_cons.mp hu with rfl | hu
    · exact hx
    · rcases List.mem_cons.mp hu with rfl | hu
      · exact hy
      · rw [List.mem_singleton.mp hu]; exact hz) (by show 3 ≤ 10000; decide)
  have four : ∀ {x y z t : PyData}, Good x (n + 1) → Good y (n + 1) → Good z (n + 1) → Good t (n + 1) → Good (.tuple [x, y, z, t]) (n + 2) := fun hx hy hz ht => Good.tup (fun u hu => by
    rcases List.mem_cons.mp hu with rfl | hu
    · exact hx
    · rcases List.mem_cons.mp hu with rfl | hu
      · exact hy
      · rcases List.mem_cons.mp hu with rfl | hu
        · exact hz
        · rw [List.mem_singleton.mp hu]; exact ht) (by show 4 ≤ 10000; decide)
  split
  · exact two (s _ (by decide +kernel)) b
  split
  · exact three (s _ (by decide +kernel)) b e
  split
  · exact three (s _ (by decide +kernel)) e b
  split
  · exact four (s _ (by decide +kernel)) e hn' b
  split
  · exact three (s _ (by decide +kernel)) hs' b
  split
  · exact four (s _ (by decide +kernel)) (i _) b e
  split
  · exact four (s _ (by decide +kernel)) (i _) e b
  · exact four (s _ (by decide +kernel)) (i _) hs' b
theorem good_nest {nm : Str} {d : PyData} {n : Nat} (hn : Low nm) (h5 : nm.length ≤ 900) (g : Good d n) : ∀ ws : List Nat, ws.length ≤ 26 → Good (nestD nm d ws) (n + 2 * ws.length)
  | [], _ => g
  | w :: r, h => by
    have ih := good_nest hn h5 g r (by rw [List.length_cons] at h; omega)
    have := good_layer (w := w) hn (sc := scn nm r.length) (low_app hn (low_sg (by rw [List.length_cons] at h; omega)) (by show nm.length + 1 ≤ 1000; omega)) ih
    exact this.mono (by rw [List.length_cons]; omega)
/-! ### what is told of it -/
structure LayerOk (cs ls hs : List Str) (ps : List (Str × Str)) (nm sc : Str) (w : Nat) (d : PyData) : Prop where
  row : isRowD cs ls hs ps (layer nm sc w d) = true
  oft : oftD (layer nm sc w d) = 0
  bods : (whichW w = 0 ∧ ∃ r, bodiesD (layer nm sc w d) = .tuple [d] :: r ∧ ∀ b ∈ r, b = .tuple []) ∨ (whichW w = 1 ∧ bodiesD (layer nm sc w d) = [.tuple [], .tuple [d]])
  ar : ∃ x, arD (layer nm sc w d) ps = ps ++ x ∧ ∀ q ∈ x, q.1 = sc
theorem look_none {ps : List (Str × Str)} {z : Str} (h : z ∉ ps.map (·.1)) : lookW ps z = none := by
  cases e : lookW ps z with
  | none => rfl
  | some w => exact absurd (lookW_mem e) h
theorem part_name {cs ls hs : List Str} {ps : List (Str × Str)} {z : Str} (h : isNameL z = true) : isPartD cs ls hs ps "name" (.str z) = true := by
  show (isNameL z && namePart "name" z cs ls hs ps) = true
  rw [h]
  rfl
theorem part_sc {cs ls hs : List Str} {ps : List (Str × Str)} {z : Str} (h : isNameL z = true) (hz : z ∉ ps.map (·.1)) : isPartD cs ls hs ps "scope" (.str z) = true := by
  show (isNameL z && (decide (("scope" : Str) = "name") || decide ((lookW ps z).isSome = decide (("scope" : Str) = "entered")))) = true
  rw [h, look_none hz]
  rfl
theorem part_tup {cs ls hs : List Str} {ps : List (Str × Str)} {xs : List PyData} : isPartD cs ls hs ps "body" (.tuple xs) = true := rfl
theorem row2 {cs ls hs : List Str} {ps : List (Str × Str)} {z k1 : Str} {a : PyData} (h : kindsOf z = some [k1]) (h1 : isPartD cs ls hs ps k1 a = true) : isRowD cs ls hs ps (.tuple [.str z, a]) = true := by
  simp only [isRowD, h, List.length_cons, List.length_nil, decide_true, List.zip_cons_cons, List.zip_nil_left, List.all_cons, List.all_nil, h1, Bool.and_self]
theorem row3 {cs ls hs : List Str} {ps : List (Str × Str)} {z k1 k2 : Str} {a b : PyData} (h : kindsOf z = some [k1, k2]) (h1 : isPartD cs ls hs ps k1 a = true) (h2 : isPartD cs ls hs ps k2 b = true) : isRowD cs ls hs ps (.tuple [.str z, a, b]) = true := by
  simp only [isRowD, h, List.length_cons, List.length_nil, decide_true, List.zip_cons_cons, List.zip_nil_left, List.all_cons, List.all_nil, h1, h2, Bool.and_self]
theorem row4 {cs ls hs : List Str} {ps : List (Str × Str)} {z k1 k2 k3 : Str} {a b c : PyData} (h : kindsOf z = some [k1, k2, k3]) (h1 : isPartD cs ls hs ps k1 a = true) (h2 : isPartD cs ls hs ps k2 b = true) (h3 : isPartD cs ls hs ps k3 c = true) : isRowD cs ls hs ps (.tuple [.str z, a, b, c]) = true := by
  simp only [isRowD, h, List.length_cons, List.length_nil, decide_true, List.zip_cons_cons, List.zip_nil_left, List.all_cons, List.all_nil, h1, h2, h3, Bool.and_self]
theorem layer_ok {cs ls hs : List Str} {ps : List (Str × Str)} {nm sc : Str} (w : Nat) (d : PyData) (hn : isNameL nm = true) (hs' : isNameL sc = true) (hps : sc ∉ ps.map (·.1)) : LayerOk cs ls hs ps nm sc w d := by
  by_cases h0 : w = 0
  · subst h0
    exact ⟨row2 (by decide +kernel) part_tup, rfl, .inl ⟨rfl, [], rfl, fun _ h => by cases h⟩, [], (List.append_nil _).symm, fun _ h => by cases h⟩
  by_cases h1 : w = 1
  · subst h1
    exact ⟨row3 (by decide +kernel) part_tup part_tup, rfl, .inl ⟨rfl, [.tuple []], rfl, fun _ h => List.mem_singleton.mp h⟩, [], (List.append_nil _).symm, fun _ h => by cases h⟩
  by_cases h2 : w = 2
  · subst h2
    exact ⟨row3 (by decide +kernel) part_tup part_tup, rfl, .inr ⟨rfl, rfl⟩, [], (List.append_nil _).symm, fun _ h => by cases h⟩
  by_cases h3 : w = 3
  · subst h3
    exact ⟨row4 (by decide +kernel) part_tup (part_name hn) part_tup, rfl, .inr ⟨rfl, rfl⟩, [], (List.append_nil _).symm, fun _ h => by cases h⟩
  by_cases h4 : w = 4
  · subst h4
    exact ⟨row3 (by decide +kernel) (part_sc hs' hps) part_tup, rfl, .inl ⟨rfl, [], rfl, fun _ h => by cases h⟩, [(sc, "nest")], rfl, fun _ h => by rw [List.mem_singleton.mp h]⟩
  by_cases h5 : w = 5
  · subst h5
    exact ⟨row4 (k1 := "calc") (by decide +kernel) rfl part_tup part_tup, rfl, .inl ⟨rfl, [.tuple []], rfl, fun _ h => List.mem_singleton.mp h⟩, [], (List.append_nil _).symm, fun _ h => by cases h⟩
  by_cases h6 : w = 6
  · subst h6
    exact ⟨row4 (k1 := "calc") (by decide +kernel) rfl part_tup part_tup, rfl, .inr ⟨rfl, rfl⟩, [], (List.append_nil _).symm, fun _ h => by cases h⟩
  · have e : layer nm sc w d = .tuple [.str "within", .int 5, .str sc, .tuple [d]] := by
      unfold layer
      rw [if_neg h0, if_neg h1, if_neg h2, if_neg h3, if_neg h4, if_neg h5, if_neg h6]
    have e2 : whichW w = 0 := by
      unfold whichW
      rw [if_neg (by rintro (h | h | h) <;> contradiction)]
    refine ⟨?_, ?_, ?_, ?_⟩
    · rw [e]; exact row4 (k1 := "span") (by decide +kernel) rfl (part_sc hs' hps) part_tup
    · rw [e]; rfl
    · rw [e, e2]; exact .inl ⟨rfl, [], rfl, fun _ h => by cases h⟩
    · rw [e]; exact ⟨[(sc, "within")], rfl, fun _ h => by rw [List.mem_singleton.mp h]⟩
theorem scn_inj {nm : Str} {i j : Nat} (h : scn nm i = scn nm j) : i = j := by
  have e := congrArg (fun z : Str => z.cps.toList) h
  have e1 : nm.cps.toList ++ [i + 97] = nm.cps.toList ++ [j + 97] := by
    have a := tl_append nm (sg (i + 97))
    have b := tl_append nm (sg (j + 97))
    exact a.symm.trans (e.trans b)
  have e2 := List.append_cancel_left e1
  have e3 : i + 97 = j + 97 := (List.cons.inj e2).1
  omega
theorem scn_name {nm : Str} (hn : isNameL nm = true) (h5 : nm.length ≤ 5) {k : Nat} (h : k < 26) : isNameL (scn nm k) = true := by
  refine (low_app (Low.of hn) (low_sg h) (by show nm.length + 1 ≤ 1000; omega)).name ?_ ?_
  · rw [strLen_append]; show 1 ≤ nm.length + 1; omega
  · rw [strLen_append]; show nm.length + 1 ≤ 6; omega
theorem wrong_nil (cs ls hs : List Str) (n : Nat) (place : List Int) (ps : List (Str × Str)) (oft : Int) : wrongD cs ls hs n [] place ps oft = none := by
  cases n <;> rfl
theorem first_nils {cs ls hs : List Str} {n : Nat} {pl : Nat → List Int} {ps : List (Str × Str)} {oft : Int} : ∀ {r : List PyData} {i : Nat}, (∀ b ∈ r, b = .tuple []) → firstSome (fun j b => wrongD cs ls hs n (rowsD b) (pl j) ps oft) i r = none
  | [], _, _ => rfl
  | b :: r, i, h => by
    have e := h b (List.mem_cons_self ..)
    subst e
    simp only [firstSome, rowsD, wrong_nil]
    exact first_nils fun b hb => h b (List.mem_cons_of_mem _ hb)
/-- a row without bodies that may stand anywhere -/
structure Leaf (cs ls hs : List Str) (d : PyData) : Prop where
  row : ∀ ps, isRowD cs ls hs ps d = true
  oft : oftD d = 0
  bods : bodiesD d = []
theorem wrong_one {cs ls hs : List Str} {n : Nat} {row : PyData} {place : List Int} {ps : List (Str × Str)} {oft : Int} : wrongD cs ls hs (n + 1) [row] place ps oft = rowF cs ls hs n place ps oft 0 row := by
  have e : wrongD cs ls hs (n + 1) [row] place ps oft = firstSome (rowF cs ls hs n place ps oft) 0 [row] := by
    simp only [wrongD]
    rfl
  rw [e]
  simp only [firstSome]
  cases rowF cs ls hs n place ps oft 0 row <;> rfl
theorem wrong_nest {cs ls hs : List Str} {nm : Str} {d0 : PyData} (hn : isNameL nm = true) (h5 : nm.length ≤ 5) (L : Leaf cs ls hs d0) : ∀ (ws : List Nat) (n : Nat) (place : List Int) (ps : List (Str × Str)) (oft : Int),
    (∀ j, j < ws.length → scn nm j ∉ ps.map (·.1)) → oft ≤ 3 → ws.length < n → place.length + 1 + 2 * ws.length ≤ 21 → wrongD cs ls hs n [nestD nm d0 ws] place ps oft = if place.length + 1 + 2 * ws.length ≤ 19 then none else some (place ++ 0 :: placeW ws)
  | [], n, place, ps, oft, _, ho, hn0, hp => by
    obtain ⟨m, rfl⟩ : ∃ m, n = m + 1 := ⟨n - 1, by simp only [List.length_nil] at hn0; omega⟩
    rw [wrong_one]
    unfold rowF nestD
    rw [L.row, L.oft, L.bods]
    simp only [List.length_nil, Nat.mul_zero, Nat.add_zero] at hp ⊢
    by_cases h : place.length + 1 ≤ 19
    · rw [if_neg (by simp; omega), if_neg (by omega), if_pos h]; rfl
    · rw [if_pos (.inl (by omega)), if_neg h]; rfl
  | w :: r, n, place, ps, oft, hps, ho, hn0, hp => by
    obtain ⟨m, rfl⟩ : ∃ m, n = m + 1 := ⟨n - 1, by simp only [List.length_cons] at hn0; omega⟩
    simp only [List.length_cons] at hn0 hp hps ⊢
    have hk : r.length < 26 := by omega
    have O := layer_ok (cs := cs) (ls := ls) (hs := hs) (ps := ps) w (nestD nm d0 r) hn (scn_name hn h5 hk) (hps _ (by omega))
    rw [wrong_one]
    unfold rowF
    show (if _ ∨ isRowD cs ls hs ps (layer nm (scn nm r.length) w (nestD nm d0 r)) = false then _ else _) = _
    show (if 19 < place.length + 1 ∨ isRowD cs ls hs ps (layer nm (scn nm r.length) w (nestD nm d0 r)) = false then _ else if 3 < oft + oftD (layer nm (scn nm r.length) w (nestD nm d0 r)) then _ else
      firstSome (fun j b => wrongD cs ls hs m (rowsD b) (place ++ [((0 : Nat) : Int)] ++ [(j : Int)]) (arD (layer nm (scn nm r.length) w (nestD nm d0 r)) ps) (oft + oftD (layer nm (scn nm r.length) w (nestD nm d0 r)))) 0 (bodiesD (layer nm (scn nm r.length) w (nestD nm d0 r)))) = _
    rw [O.row, O.oft, if_neg (by simp; omega), if_neg (by omega)]
    obtain ⟨x, ex, hx⟩ := O.ar
    rw [ex]
    have ih : ∀ pl : List Int, pl.length = place.length + 2 → wrongD cs ls hs m [nestD nm d0 r] pl (ps ++ x) (oft + 0) = if place.length + 2 + 1 + 2 * r.length ≤ 19 then none else some (pl ++ 0 :: placeW r) := fun pl hpl => by
      have := wrong_nest hn h5 L r m pl (ps ++ x) (oft + 0) (fun j hj hm => ?_) (by omega) (by omega) (by omega)
      · rw [this, hpl]
      · rw [List.map_append] at hm
        rcases List.mem_append.mp hm with hm | hm
        · exact hps j (by omega) hm
        · obtain ⟨q, hq, e⟩ := List.mem_map.mp hm
          have := hx q hq
          rw [this] at e
          have := scn_inj e
          omega
    have e19 : (place.length + 1 + 2 * (r.length + 1) ≤ 19) = (place.length + 2 + 1 + 2 * r.length ≤ 19) := by
      apply propext; constructor <;> intro h <;> omega
    simp only [e19]
    rcases O.bods with ⟨w0, rr, eb, hr⟩ | ⟨w1, eb⟩
    · rw [eb]
      simp only [firstSome, rowsD]
      rw [ih _ (by simp)]
      have ep : placeW (w :: r) = 0 :: 0 :: placeW r := by show whichW w :: _ = _; rw [w0]
      rw [ep]
      by_cases h : place.length + 2 + 1 + 2 * r.length ≤ 19
      · rw [if_pos h, if_pos h]
        exact first_nils hr
      · rw [if_neg h, if_neg h]
        simp
    · rw [eb]
      simp only [firstSome, rowsD]
      rw [wrong_nil, ih _ (by simp)]
      have ep : placeW (w :: r) = 1 :: 0 :: placeW r := by show whichW w :: _ = _; rw [w1]
      rw [ep]
      by_cases h : place.length + 2 + 1 + 2 * r.length ≤ 19
      · rw [if_pos h, if_pos h]
      · rw [if_neg h, if_neg h]
        simp
end T06
namespace T06
open PySem PySem.Spec PyProof.Rows L2 HX HB HG HU HH HD HS HV HQ HK TL
/-! ### data of tuples alone stand while draws are drawn -/
section
variable {K : PySem.W.Frag} {H H' : Hp} {d g c : Addr}
theorem Up.dp (u : Up d g H H') (D : Dr H d g c) {v : V} {x : PyData} (t : tupD x = true) (h : Dp K H v x) : Dp K H' v x := dp_keep (fun _ _ h => u.sqt D h) t h
theorem Up.dpAll (u : Up d g H H') (D : Dr H d g c) {vs : List V} {xs : List PyData} (t : tupAll xs = true) (h : DpAll K H vs xs) : DpAll K H' vs xs := dpAll_keep (fun _ _ h => u.sqt D h) t h
end
theorem tup_layer {nm sc : Str} {w : Nat} {d : PyData} (h : tupD d = true) : tupD (layer nm sc w d) = true := by
  unfold layer
  repeat' split
  all_goals simp only [tupD, tupAll, h, Bool.and_self]
theorem tup_nest {nm : Str} {d : PyData} (h : tupD d = true) : ∀ ws, tupD (nestD nm d ws) = true
  | [] => h
  | w :: r => tup_layer (tup_nest h r)
theorem tup_ints : ∀ ns : List Int, tupAll (ns.map .int) = true
  | [] => rfl
  | n :: ns => by simp only [List.map_cons, tupAll, tupD, tup_ints ns, Bool.and_self]
theorem dp_ints_inv {K : PySem.W.Frag} {H : Hp} : ∀ {ns : List Int} {xs : List V}, DpAll K H xs (ns.map .int) → xs = ns.map V.int
  | [], _, .nil => rfl
  | n :: ns, _, .cons (.int _) t => by rw [dp_ints_inv t]; rfl
theorem dp_place {K : PySem.W.Frag} {H : Hp} {v : V} {pl : List Int} (h : Dp K H v (.tuple (pl.map .int))) : ∃ t : Addr, v = .ref t ∧ SqT K H t (pl.map V.int) := by
  obtain ⟨a, xs, rfl, hx, hall⟩ := dp_tup h
  rw [dp_ints_inv hall] at hx
  exact ⟨a, rfl, hx⟩
theorem ten_at {j : Nat} (h : j < 10) : atI ("abcdefghij" : Str).cps.toList (j : Int) = some (j + 97) := by
  refine atI_nat ?_
  have e : ("abcdefghij" : Str).cps.toList = (List.range 10).map (· + 97) := by decide +kernel
  rw [e, List.getElem?_map, List.getElem?_range h]
  rfl
section
variable {P : Program} {w : World} {K : PySem.W.Frag} {mg : Str → Option Value} {base : Heap}
def spWithin (K : PySem.W.Frag) : Sp := fun vs H Q _ => ∃ (d g c : Addr) (v : V) (d0 : PyData) (m : Nat) (nm : Str), vs = [.ref d, v, .int (m : Int), .str nm] ∧ Dr H d g c ∧ Dp K H v d0 ∧ tupD d0 = true ∧ m ≤ 10 ∧ isNameL nm = true ∧ nm.length ≤ 5 ∧
  ∀ (p : Addr) (x y : V) (ws : List Nat) (H' : Hp), ws.length = m → Dr H' d g c → Up d g H H' → SqT K H' p [x, y] → Dp K H' x (nestD nm d0 ws) → Dp K H' y (.tuple ((0 :: placeW ws).map .int)) → Q (.ref p) H'
theorem ok_within (T : Tp K w mg) : FnOk P w K mg base CX0 2 T.f_within T.fd_within ["_law_draw", "_law_row", "_law_many", "_law_name_here"] (spWithin K) := by
  refine T.D_within.F.ok sc_within (fun vs H Q E h => ?_) (fun cdv A outer s H vs Q E hr h => ?_)
  · obtain ⟨d, g, c, v, d0, m, nm, rfl, _⟩ := h
    rfl
  · obtain ⟨d, g, c, v, d0, m, nm, rfl, D, hv, ht, hm, hn, h5, q⟩ := h
    refine ⟨_, (pss_cons (ps_set (i := 4) sc_within.nd rfl (.inl rfl) (pe_tup pa_nil))
  (pss_cons (ps_for PassesOwn.never rfl (pi_range1 (by rfl) T.range (pa_cons (pv 2) pa_nil)) (pg_name (i := 5) sc_within.nd rfl (.inl rfl))
  (pss_cons (ps_set (i := 6) sc_within.nd rfl (.inl rfl) (pcall T.D_next (ok_next T) hr (by rfl) (pa_cons (pv 0) (pa_cons pe_int pa_nil))))
  (pss_cons (ps_set (i := 7) sc_within.nd rfl (.inl rfl) (pe_tup (pa_cons pe_str (pa_cons (pe_slice sl_str (pe_op op_add_str (pv 3) (pe_ix ix_str pe_str (pv 5) (fun _ _ => rfl))) (po_some (pe_un un_neg pe_int)) po_none) (pa_cons (pe_tup (pa_cons (pv 1) pa_nil)) pa_nil)))))
  (pss_cons (ps_set (i := 8) sc_within.nd rfl (.inl rfl) (pe_lst (pa_cons (pe_tup (pa_cons pe_str (pa_cons (pe_tup (pa_cons (pv 1) pa_nil)) pa_nil))) (pa_cons (pe_tup (pa_cons pe_str (pa_cons (pe_tup (pa_cons (pv 1) pa_nil)) (pa_cons (pe_tup pa_nil) pa_nil)))) (pa_cons (pe_tup (pa_cons pe_str (pa_cons (pe_tup pa_nil) (pa_cons (pe_tup (pa_cons (pv 1) pa_nil)) pa_nil)))) (pa_cons (pe_tup (pa_cons pe_str (pa_cons (pe_tup pa_nil) (pa_cons (pv 3) (pa_cons (pe_tup (pa_cons (pv 1) pa_nil)) pa_nil))))) (pa_cons (pv 7) pa_nil)))))))
  (pss_cons (ps_set (i := 1) sc_within.nd rfl (.inl rfl) (pe_ix ix_list (pe_op op_cat (pv 8) (pe_lst (pa_cons (pe_tup (pa_cons pe_str (pa_cons pe_int (pa_cons (pe_tup (pa_cons (pv 1) pa_nil)) (pa_cons (pe_tup pa_nil) pa_nil))))) (pa_cons (pe_tup (pa_cons pe_str (pa_cons pe_int (pa_cons (pe_tup pa_nil) (pa_cons (pe_tup (pa_cons (pv 1) pa_nil)) pa_nil))))) (pa_cons (pe_tup (pa_cons pe_str (pa_cons pe_int (pa_cons (pe_ix ix_tup (pv 7) pe_int (fun _ _ => rfl)) (pa_cons (pe_tup (pa_cons (pv 1) pa_nil)) pa_nil))))) pa_nil))))) (pv 6) (fun _ _ => rfl)))
  (pss_one (ps_set (i := 4) sc_within.nd rfl (.inl rfl) (pe_op HT2.op_catA (pe_tup (pa_cons (pe_ix ix_list (pe_lst (pa_cons pe_int (pa_cons pe_int (pa_cons pe_int (pa_cons pe_int (pa_cons pe_int (pa_cons pe_int (pa_cons pe_int (pa_cons pe_int pa_nil))))))))) (pv 6) (fun _ _ => rfl)) (pa_cons pe_int pa_nil))) (pv 4)))))))))
  (pss_one (ps_ret (pe_tup (pa_cons (pv 1) (pa_cons (pe_op HT2.op_catA (pe_tup (pa_cons pe_int pa_nil)) (pv 4)) pa_nil))))))), ?_⟩
    refine ⟨Nat.zero_le _, fun p0 n0 => ?_⟩
    obtain ⟨s1, dp0⟩ := new_tup (K := K) n0 .nil
    generalize upd _ _ _ = H1 at s1 dp0 ⊢
    have u1 : Up d g H H1 := Up.of s1
    have D1 := D.same s1
    refine ⟨_, rfl, (m : Int), rfl, by omega, by omega, for_range (lo := 0) (n := ((m : Int) - 0).toNat) (fun i σ H2 => ∃ (ws : List Nat) (x y : V) (y5 y6 y7 y8 : Option V), σ = [some (.ref d), some x, some (.int (m : Int)), some (.str nm), some y, y5, y6, y7, y8] ∧ ws.length = i ∧ Dp K H2 x (nestD nm d0 ws) ∧ Dp K H2 y (.tuple ((placeW ws).map .int)) ∧ Dr H2 d g c ∧ Up d g H H2) ?_ ?_ ?_⟩
    · exact ⟨[], _, _, _, _, _, _, rfl, rfl, s1.dp hv, dp0, D1, u1⟩
    · rintro i σ H2 hi ⟨ws, x, y, y5, y6, y7, y8, rfl, hl, hx, hy, D2, u2⟩
      have hi : i < m := by omega
      -- way
      refine ⟨_, rfl, d, g, c, 8, rfl, D2, by decide, by decide, fun r H3 r0 r1 D3 u3 => ?_⟩
      obtain ⟨k, rfl⟩ : ∃ k : Nat, r = (k : Int) := ⟨r.toNat, by omega⟩
      have hk : k < 8 := by omega
      have hx := u3.dp D2 (tup_nest ht ws) hx
      have hy := u3.dp D2 (show tupD (.tuple _) = true from tup_ints _) hy
      have u3 := u2.trans u3
      clear u2 D2
      rw [show (0 : Int) + (i : Int) = ((i : Nat) : Int) by omega]
      have hc : isNameL (scn nm i) = true := scn_name hn h5 (by omega)
      have el : nm.length + 1 ≤ 6 := by omega
      have esc : cutS (nm ++ ⟨#[i + 97]⟩) (some (-6)) none = scn nm i := cut_last (by rw [strLen_append]; exact el)
      -- nest
      refine nm_ ?_
      refine seq_set ?_
      refine run_tup (K := K) (ds := [.str "nest", .str (scn nm i), .tuple [nestD nm d0 ws]]) ?zA fun p4 H4 n4 s4 d4 => ?_
      case zA =>
        refine mk_cons mk_str (mk_cons (mk_of fun H4 Q4 s4 q4 => ?_) (mk_cons (mk_tup (mk_cons (mk_var rfl hx) mk_nil)) mk_nil))
        refine ⟨_, rfl, _, rfl, _, _, _, rfl, rfl, by show 10 ≤ sizeLine; decide, ten_at (by omega), _, _, rfl, rfl, ?_, _, rfl, _, rfl, _, rfl, ?_, ?_⟩
        · show nm.length + 1 ≤ sizeLine
          exact Nat.le_of_lt (small1000 (by omega))
        · rw [strLen_append]
          show nm.length + 1 ≤ sizeLine
          exact Nat.le_of_lt (small1000 (by omega))
        · rw [show cutS (nm ++ ⟨#[i + 97]⟩) (some (-6)) none = scn nm i from esc]
          exact q4 _ _ (Same.refl _) (.str _)
      have hx := s4.dp hx
      have hy := s4.dp hy
      -- some
      refine nm1 ?_
      refine seq_set ?_
      refine run_lst (K := K) (ds := [.tuple [.str "shield", .tuple [nestD nm d0 ws]], .tuple [.str "try", .tuple [nestD nm d0 ws], .tuple []], .tuple [.str "try", .tuple [], .tuple [nestD nm d0 ws]], .tuple [.str "catch", .tuple [], .str nm, .tuple [nestD nm d0 ws]], .tuple [.str "nest", .str (scn nm i), .tuple [nestD nm d0 ws]]]) ?zA fun p5 H5 vs5 n5 s5 l5 d5 => ?_
      case zA =>
        have hnm : Dp K H4 (.str nm) (.str nm) := .str nm
        repeat' first | exact mk_nil | exact mk_str | exact mk_int | exact mk_var rfl hx | exact mk_var rfl hnm | exact mk_var rfl d4 | apply mk_tup | apply mk_cons
        all_goals simp
      have hx := s5.dp hx
      have hy := s5.dp hy
      have d4 := s5.dp d4
      -- the row
      refine nm1 ?_
      refine seq_set ?_
      refine op_ ?_
      refine op_ ?_
      refine ⟨_, rfl, ?_⟩
      refine run_lst (K := K) (ds := [.tuple [.str "if", .int 1, .tuple [nestD nm d0 ws], .tuple []], .tuple [.str "if", .int 0, .tuple [], .tuple [nestD nm d0 ws]], .tuple [.str "within", .int 5, .str (scn nm i), .tuple [nestD nm d0 ws]]]) ?zA fun p6 H6 vs6 n6 s6 l6 d6 => ?_
      case zA =>
        have hsc : MkE K _ H5 (tOp (rIxT K) (tVar 7) (tC (.int 1))) (.str (scn nm i)) := mk_of (σ := [some (.ref d), some x, some (.int (m : Int)), some (.str nm), some y, some (.int (i : Int)), some (.int (k : Int)), some (.ref p4), some (.ref p5)]) fun H7 Q7 s7 q7 => by
          obtain ⟨a, xs, e, h4, hall⟩ := dp_tup (s7.dp d4)
          cases e
          cases hall with
          | cons _ t =>
            cases t with
            | cons h1 t =>
              cases h1
              exact ⟨_, rfl, p4, _, 1, _, rfl, rfl, h4, atI_nat (j := 1) rfl, q7 _ _ (Same.refl _) (.str _)⟩
        repeat' first | exact mk_nil | exact mk_str | exact mk_int | exact mk_var rfl hx | exact hsc | apply mk_tup | apply mk_cons
        all_goals simp
      have hx := s6.dp hx
      have hy := s6.dp hy
      have d56 := dpAll_app (s6.dpAll d5) d6
      refine ⟨p5, p6, vs5, vs6, rfl, rfl, s6 _ _ l5, l6, ?_, fun p7 n7 => ?_⟩
      · rw [dpAll_len d5, dpAll_len d6]
        show 5 + 3 ≤ sizeLine
        decide
      obtain ⟨s7, l7⟩ := new_lst (xs := vs5 ++ vs6) n7
      have d56 := s7.dpAll d56
      generalize upd _ _ _ = H7 at s7 l7 d56 ⊢
      obtain ⟨v1, e1, hv1⟩ := dp_at d56 (i := k) (d := layer nm (scn nm i) k (nestD nm d0 ws)) (by
        match k, hk with
        | 0, _ => rfl
        | 1, _ => rfl
        | 2, _ => rfl
        | 3, _ => rfl
        | 4, _ => rfl
        | 5, _ => rfl
        | 6, _ => rfl
        | 7, _ => rfl)
      refine ⟨_, rfl, p7, _, (k : Int), v1, rfl, rfl, sl l7, atI_nat e1, nm1 ?_⟩
      have hy := s7.dp hy
      -- the place
      refine one_set ?_
      refine op_ ?_
      refine run_tup (K := K) (ds := [.int (whichW k), .int 0]) ?zA fun p8 H8 n8 s8 d8 => ?_
      case zA =>
        refine mk_cons (mk_of fun H9 Q9 s9 q9 => ?_) (mk_cons mk_int mk_nil)
        refine op_ ?_
        refine run_lst (K := K) (ds := ([0, 0, 1, 1, 0, 0, 1, 0] : List Int).map .int) ?zB fun pA HA vsA nA sA lA dA => ?_
        case zB => exact mk_cons mk_int (mk_cons mk_int (mk_cons mk_int (mk_cons mk_int (mk_cons mk_int (mk_cons mk_int (mk_cons mk_int (mk_cons mk_int mk_nil)))))))
        have eA := dp_ints_inv dA
        subst eA
        refine ⟨_, rfl, pA, _, (k : Int), .int (whichW k), rfl, rfl, sl lA, atI_nat ?_, q9 _ _ sA (.int _)⟩
        match k, hk with
        | 0, _ => rfl
        | 1, _ => rfl
        | 2, _ => rfl
        | 3, _ => rfl
        | 4, _ => rfl
        | 5, _ => rfl
        | 6, _ => rfl
        | 7, _ => rfl
      obtain ⟨ay, ey, hay⟩ := dp_place (s8.dp hy)
      subst ey
      have hy := s8.dp hy
      have lp := placeW_len ws
      refine ⟨_, rfl, cat_dp d8 hy (by rw [List.length_map]; show 2 + _ ≤ sizeLine; exact Nat.le_of_lt (small1000 (by omega))) fun p9 H9 s9 d9 => nm_ ?_⟩
      have sA := (((s4.trans s5).trans (s6.trans s7)).trans s8).trans s9
      exact ⟨k :: ws, _, _, _, _, _, _, rfl, by rw [List.length_cons, hl], by show Dp K H9 v1 (layer nm (scn nm ws.length) k (nestD nm d0 ws)); rw [hl]; exact (s8.trans s9).dp hv1, d9, D3.same sA, u3.trans (Up.of sA)⟩
    · rintro σ H2 ⟨ws, x, y, y5, y6, y7, y8, rfl, hl, hx, hy, D2, u2⟩
      obtain ⟨ay, ey, hay⟩ := dp_place hy
      subst ey
      have lp := placeW_len ws
      refine ⟨_, rfl, ?_⟩
      refine op_ ?_
      refine run_tup (K := K) (ds := [.int 0]) (mk_cons mk_int mk_nil) fun p3 H3 n3 s3 d3 => ?_
      refine ⟨_, rfl, cat_dp d3 (s3.dp hy) (by rw [List.length_map]; show 1 + _ ≤ sizeLine; exact Nat.le_of_lt (small1000 (by omega))) fun p4 H4 s4 d4 => ?_⟩
      refine ⟨by show 2 ≤ sizeLine; decide, fun p5 n5 => ?_⟩
      have s5 := same_upd (o := .tup [x, .ref p4]) n5
      have sA := (s3.trans s4).trans s5
      exact q p5 x (.ref p4) ws _ (by omega) (D2.same sA) (u2.trans (Up.of sA)) (stt upd_same) (sA.dp hx) (s5.dp d4)
end
end T06
namespace T06
open PySem PySem.Spec PyProof.Rows L2 HX HB HG HU HH HD HS HV HQ HK TL
/-! ### how many rows -/
def cntD : Nat → List PyData → Nat
  | 0, _ => 0
  | n + 1, rows => (rows.map fun row => 1 + ((bodiesD row).map fun b => cntD n (rowsD b)).sum).sum
theorem flat_len {α β : Type} {f : Nat → α → List β} {g : α → Nat} : ∀ {xs : List α} {i : Nat}, (∀ k x, (f k x).length = g x) → (flatF f i xs).length = (xs.map g).sum
  | [], _, _ => rfl
  | x :: xs, i, h => by
    simp only [flatF, List.length_append, List.map_cons, List.sum_cons]
    rw [h, flat_len h]
theorem places_len : ∀ (n : Nat) (rows : List PyData) (place : List Int), (placesD n rows place).length = cntD n rows
  | 0, _, _ => rfl
  | n + 1, rows, place => by
    simp only [placesD, cntD]
    refine flat_len fun k row => ?_
    rw [List.length_cons, flat_len (g := fun b => cntD n (rowsD b)) fun j b => places_len n _ _]
    omega
theorem cnt_app (n : Nat) (xs ys : List PyData) : cntD n (xs ++ ys) = cntD n xs + cntD n ys := by
  cases n with
  | zero => rfl
  | succ n => simp only [cntD, List.map_append, List.sum_append]
theorem cnt_nil (n : Nat) : cntD n [] = 0 := by cases n <;> rfl
theorem cnt_nest {nm : Str} {d0 : PyData} (hn : isNameL nm = true) (h5 : nm.length ≤ 5) (hb : bodiesD d0 = []) : ∀ (ws : List Nat) (n : Nat), ws.length < n → ws.length ≤ 20 → cntD n [nestD nm d0 ws] = ws.length + 1
  | [], n, h, _ => by
    obtain ⟨m, rfl⟩ : ∃ m, n = m + 1 := ⟨n - 1, by simp only [List.length_nil] at h; omega⟩
    simp only [cntD, nestD, hb, List.map_cons, List.map_nil, List.sum_cons, List.sum_nil, List.length_nil]
    rfl
  | w :: r, n, h, h2 => by
    obtain ⟨m, rfl⟩ : ∃ m, n = m + 1 := ⟨n - 1, by simp only [List.length_cons] at h; omega⟩
    simp only [List.length_cons] at h h2 ⊢
    have ih := cnt_nest hn h5 hb r m (by omega) (by omega)
    have O := layer_ok (cs := []) (ls := []) (hs := []) (ps := []) w (nestD nm d0 r) hn (scn_name hn h5 (k := r.length) (by omega)) (by simp)
    simp only [cntD, nestD, List.map_cons, List.map_nil, List.sum_cons, List.sum_nil, Nat.add_zero]
    have z : ∀ rr : List PyData, (∀ b ∈ rr, b = .tuple []) → (rr.map fun b => cntD m (rowsD b)).sum = 0 := fun rr => by
      induction rr with
      | nil => intro _; rfl
      | cons b rr ih =>
        intro hb
        have e := hb b (List.mem_cons_self ..)
        subst e
        simp only [List.map_cons, List.sum_cons, rowsD, cnt_nil, Nat.zero_add]
        exact ih fun b hb' => hb b (List.mem_cons_of_mem _ hb')
    rcases O.bods with ⟨_, rr, eb, hr⟩ | ⟨_, eb⟩
    · rw [eb, List.map_cons, List.sum_cons, z rr hr]
      simp only [rowsD]
      rw [ih]
      omega
    · rw [eb]
      simp only [List.map_cons, List.map_nil, List.sum_cons, List.sum_nil, rowsD, cnt_nil]
      rw [ih]
      omega
/-! ### right rows, by their rows -/
theorem first_none {α β : Type} {f : Nat → α → Option β} : ∀ {xs : List α} {i : Nat}, (∀ k x, xs[k]? = some x → f (i + k) x = none) → firstSome f i xs = none
  | [], _, _ => rfl
  | x :: xs, i, h => by
    simp only [firstSome]
    rw [show f i x = none from h 0 x rfl]
    refine first_none fun k y e => ?_
    rw [show i + 1 + k = i + (k + 1) by omega]
    exact h (k + 1) y (by simpa using e)
theorem wrong_succ {cs ls hs : List Str} {n : Nat} {rows : List PyData} {place : List Int} {ps : List (Str × Str)} {oft : Int} : wrongD cs ls hs (n + 1) rows place ps oft = firstSome (rowF cs ls hs n place ps oft) 0 rows := by
  simp only [wrongD]
  rfl
theorem rowF_none' {cs ls hs : List Str} {n : Nat} {place : List Int} {ps : List (Str × Str)} {oft : Int} {i : Nat} {row : PyData} (h1 : place.length + 1 ≤ 19) (h2 : isRowD cs ls hs ps row = true) (h3 : oft + oftD row ≤ 3)
    (h4 : ∀ (j : Nat) b, (bodiesD row)[j]? = some b → wrongD cs ls hs n (rowsD b) (place ++ [(i : Int)] ++ [(j : Int)]) (arD row ps) (oft + oftD row) = none) : rowF cs ls hs n place ps oft i row = none := by
  unfold rowF
  rw [h2, if_neg (by simp; omega), if_neg (by omega)]
  exact first_none fun k x e => by rw [Nat.zero_add]; exact h4 k x e
/-! ### rows that tell numbers, in a shield, a try, an often -/
def tellD (k : Nat) : PyData := .tuple [.str "tell", .int (k : Int)]
def tellsL (n : Nat) : List PyData := (List.range n).map tellD
def sprow (q : Nat × Nat) : PyData := if q.1 = 0 then .tuple [.str "shield", .tuple (tellsL q.2)] else if q.1 = 1 then .tuple [.str "try", .tuple [], .tuple (tellsL q.2)] else .tuple [.str "often", .int 2, .tuple (tellsL q.2)]
theorem tell_leaf (cs ls hs : List Str) (k : Nat) : Leaf cs ls hs (tellD k) := ⟨fun ps => row2 (k1 := "calc") (by decide +kernel) rfl, rfl, rfl⟩
theorem tells_right {cs ls hs : List Str} {n m : Nat} {place : List Int} {ps : List (Str × Str)} {oft : Int} (hp : place.length + 1 ≤ 19) (ho : oft ≤ 3) : wrongD cs ls hs (n + 1) (tellsL m) place ps oft = none := by
  rw [wrong_succ]
  refine first_none fun k x e => ?_
  obtain ⟨j, rfl⟩ : ∃ j, x = tellD j := by
    unfold tellsL at e
    rw [List.getElem?_map] at e
    cases h : (List.range m)[k]? with
    | none => rw [h] at e; cases e
    | some j => rw [h] at e; exact ⟨j, (Option.some.inj e).symm⟩
  have L := tell_leaf cs ls hs j
  refine rowF_none' hp (L.row ps) (by rw [L.oft]; omega) fun j b e => ?_
  rw [L.bods] at e
  simp at e
structure SpOk (cs ls hs : List Str) (ps : List (Str × Str)) (q : Nat × Nat) : Prop where
  row : isRowD cs ls hs ps (sprow q) = true
  oft : 0 ≤ oftD (sprow q) ∧ oftD (sprow q) ≤ 1
  bods : ∀ b ∈ bodiesD (sprow q), b = .tuple [] ∨ b = .tuple (tellsL q.2)
  cnt : ∀ n, 0 < n → 1 + ((bodiesD (sprow q)).map fun b => cntD n (rowsD b)).sum = 1 + q.2
theorem cnt_tells {n : Nat} (h : 0 < n) (m : Nat) : cntD n (tellsL m) = m := by
  obtain ⟨k, rfl⟩ : ∃ k, n = k + 1 := ⟨n - 1, by omega⟩
  have : ∀ xs : List Nat, ((xs.map tellD).map fun row => 1 + ((bodiesD row).map fun b => cntD k (rowsD b)).sum).sum = xs.length := fun xs => by
    induction xs with
    | nil => rfl
    | cons x xs ih =>
      rw [List.map_cons, List.map_cons, List.sum_cons, ih, (tell_leaf [] [] [] x).bods]
      simp only [List.map_nil, List.sum_nil, List.length_cons]
      omega
  show ((tellsL m).map _).sum = m
  unfold tellsL
  rw [this, List.length_range]
theorem sp_ok (cs ls hs : List Str) (ps : List (Str × Str)) (q : Nat × Nat) : SpOk cs ls hs ps q := by
  obtain ⟨w, m⟩ := q
  by_cases h0 : w = 0
  · subst h0
    exact ⟨row2 (by decide +kernel) part_tup, ⟨by show (0 : Int) ≤ 0; decide, by show (0 : Int) ≤ 1; decide⟩, fun b hb => .inr (List.mem_singleton.mp hb), fun n hn => by show 1 + (cntD n (tellsL m) + 0) = _; rw [cnt_tells hn]; rfl⟩
  by_cases h1 : w = 1
  · subst h1
    refine ⟨row3 (by decide +kernel) part_tup part_tup, ⟨by show (0 : Int) ≤ 0; decide, by show (0 : Int) ≤ 1; decide⟩, fun b hb => ?_, fun n hn => by show 1 + (cntD n [] + (cntD n (tellsL m) + 0)) = _; rw [cnt_tells hn, cnt_nil]; show 1 + (0 + (m + 0)) = 1 + m; omega⟩
    rcases List.mem_cons.mp hb with h | h
    · exact .inl h
    · exact .inr (List.mem_singleton.mp h)
  · have e : sprow (w, m) = .tuple [.str "often", .int 2, .tuple (tellsL m)] := by
      unfold sprow
      rw [if_neg h0, if_neg h1]
    refine ⟨by rw [e]; exact row3 (k1 := "times") (by decide +kernel) rfl part_tup, by rw [e]; exact ⟨by show (0 : Int) ≤ 1; decide, by show (1 : Int) ≤ 1; decide⟩, fun b hb => ?_, fun n hn => ?_⟩
    · rw [e] at hb
      exact .inr (List.mem_singleton.mp hb)
    · rw [e]
      show 1 + (cntD n (tellsL m) + 0) = _
      rw [cnt_tells hn]
      rfl
def totQ (qs : List (Nat × Nat)) : Nat := (qs.map fun q => 1 + q.2).sum
theorem cnt_sp {n : Nat} (h : 0 < n) (qs : List (Nat × Nat)) : cntD (n + 1) (qs.map sprow) = totQ qs := by
  simp only [cntD, List.map_map]
  unfold totQ
  congr 1
  exact List.map_congr_left fun q _ => (sp_ok [] [] [] [] q).cnt n h
theorem sp_right {cs ls hs : List Str} {n : Nat} {qs : List (Nat × Nat)} {place : List Int} {ps : List (Str × Str)} (hp : place.length ≤ 5) : wrongD cs ls hs (n + 1 + 1) (qs.map sprow) place ps 0 = none := by
  rw [wrong_succ]
  refine first_none fun k x e => ?_
  rw [List.getElem?_map] at e
  cases h : qs[k]? with
  | none => rw [h] at e; cases e
  | some q =>
    rw [h] at e
    cases e
    have O := sp_ok cs ls hs ps q
    refine rowF_none' (by omega) O.row (by have := O.oft.2; omega) fun j b e => ?_
    rcases O.bods b (List.mem_of_getElem? e) with rfl | rfl
    · exact wrong_nil ..
    · exact tells_right (by simp; omega) (by have := O.oft.2; omega)
end T06
namespace T06
open PySem PySem.Spec PyProof.Rows L2 HX HB HG HU HH HD HS HV HQ HK TL
section
variable {P : Program} {w : World} {K : PySem.W.Frag} {mg : Str → Option Value} {base : Heap}
theorem tup_tells : ∀ xs : List Nat, tupAll (xs.map tellD) = true
  | [] => rfl
  | x :: xs => by simp only [List.map_cons, tupAll, tellD, tupD, tup_tells xs, Bool.and_self]
theorem tup_sp (q : Nat × Nat) : tupD (sprow q) = true := by
  unfold sprow tellsL
  repeat' split
  all_goals simp only [tupD, tupAll, tup_tells, Bool.and_self]
theorem tup_sps : ∀ qs : List (Nat × Nat), tupAll (qs.map sprow) = true
  | [] => rfl
  | q :: qs => by simp only [List.map_cons, tupAll, tup_sp, tup_sps qs, Bool.and_self]
theorem totQ_len : ∀ qs : List (Nat × Nat), qs.length ≤ totQ qs
  | [] => Nat.le_refl _
  | q :: qs => by
    have := totQ_len qs
    show qs.length + 1 ≤ 1 + q.2 + totQ qs
    omega
theorem totQ_app (qs : List (Nat × Nat)) (q : Nat × Nat) : totQ (qs ++ [q]) = totQ qs + (1 + q.2) := by
  unfold totQ
  rw [List.map_append, List.sum_append]
  rfl
def spSpread (K : PySem.W.Frag) : Sp := fun vs H Q _ => ∃ (d g c : Addr) (m : Nat), vs = [.ref d, .int (m : Int)] ∧ Dr H d g c ∧ m ≤ 61 ∧
  ∀ (t : Addr) (qs : List (Nat × Nat)) (H' : Hp), totQ qs = m → Dr H' d g c → Up d g H H' → Dp K H' (.ref t) (.tuple (qs.map sprow)) → Q (.ref t) H'
theorem ok_spread (T : Tp K w mg) : FnOk P w K mg base CX0 2 T.f_spread T.fd_spread ["_law_draw", "_law_many"] (spSpread K) := by
  refine T.D_spread.F.ok sc_spread (fun vs H Q E h => ?_) (fun cdv A outer s H vs Q E hr h => ?_)
  · obtain ⟨d, g, c, m, rfl, _⟩ := h
    rfl
  · obtain ⟨d, g, c, m, rfl, D, hm, q⟩ := h
    refine ⟨_, (pss_cons (ps_par (i := 2) (j := 3) rfl sc_spread.nd rfl rfl (by decide) rfl rfl (pa_cons (pe_lst pa_nil) (pa_cons (pv 1) pa_nil)) (by rfl))
  (pss_cons (ps_while PassesOwn.never (pt_cmpR op_gt (pv 3) pe_int (nomark _))
  (pss_cons (ps_set (i := 4) sc_spread.nd rfl (.inl rfl) (pe_callB (call_min2 rfl) (by rfl) T.min (by decide +kernel) (pa_cons (pe_op op_sub (pv 3) pe_int) (pa_cons (pcall T.D_next (ok_next T) hr (by rfl) (pa_cons (pv 0) (pa_cons pe_int pa_nil))) pa_nil))))
  (pss_cons (ps_set (i := 5) sc_spread.nd rfl (.inl rfl) (pe_callTy call_tuple_of (by rfl) T.tuple (by decide +kernel) (pa_cons (pe_lc (own := [("_law_k", 6)]) (g := gName 6) (by rfl) sc_spread.nd (pi_range1 (by rfl) T.range (pa_cons (pv 4) pa_nil)) (blkOk_by (own := [("_law_k", 6)]) (N := ["_law_draw", "_law_many", "_law_rows", "_law_left", "_law_inner", "_law_body", "_law_k"]) (sc := defScope s_spread) (by decide +kernel)) (fun _ _ _ _ _ => (pg_name (i := 6) sc_spread.nd rfl (.inl rfl))) (fun _ _ _ _ _ => pts_nil) (fun _ _ _ _ _ => (pe_tup (pa_cons pe_str (pa_cons (pv 6) pa_nil))))) pa_nil)))
  (pss_cons (ps_expr (pe_bm PySem.F.plainAttrs_list PySem.F.slot_list_append PySem.F.type_list_append mt_append (pv 2) (pa_cons (pe_ix ix_list (pe_lst (pa_cons (pe_tup (pa_cons pe_str (pa_cons (pv 5) pa_nil))) (pa_cons (pe_tup (pa_cons pe_str (pa_cons (pe_tup pa_nil) (pa_cons (pv 5) pa_nil)))) (pa_cons (pe_tup (pa_cons pe_str (pa_cons pe_int (pa_cons (pv 5) pa_nil)))) pa_nil)))) (pcall T.D_next (ok_next T) hr (by rfl) (pa_cons (pv 0) (pa_cons pe_int pa_nil))) (fun _ _ => rfl)) pa_nil)))
  (pss_one (ps_set (i := 3) sc_spread.nd rfl (.inl rfl) (pe_op op_sub (pe_op op_sub (pv 3) pe_int) (pv 4))))))))
  (pss_one (ps_ret (pe_callTy call_tuple_of (by rfl) T.tuple (by decide +kernel) (pa_cons (pv 2) pa_nil)))))), ?_⟩
    refine ⟨Nat.zero_le _, fun l nl => ⟨_, rfl, _, _, rfl, ?_⟩⟩
    have s1 := same_upd (o := .lst []) nl
    have hl : (upd H l (.lst [])) l = some (.lst []) := upd_same
    have lD := D.apart nl
    generalize upd H l (.lst []) = H1 at s1 hl ⊢
    refine while_by (fun σ H2 => ∃ (qs : List (Nat × Nat)) (left : Nat) (vs : List V) (y4 y5 y6 : Option V), σ = [some (.ref d), some (.int (m : Int)), some (.ref l), some (.int (left : Int)), y4, y5, y6] ∧ H2 l = some (.lst vs) ∧ DpAll K H2 vs (qs.map sprow) ∧ totQ qs + left = m ∧ Dr H2 d g c ∧ Up d g H H2)
      (fun (σ : L2.St) (_ : Hp) => match σ[3]? with | some (some (V.int z)) => z.toNat | _ => 0) ⟨[], m, [], _, _, _, rfl, hl, .nil, Nat.zero_add _, D.same s1, Up.of s1⟩ ?_ ?_
    · rintro σ H2 ⟨qs, left, vs, y4, y5, y6, rfl, h2, hd, ht, D2, u2⟩
      refine ⟨_, rfl, _, _, rfl, rfl, _, rfl, ite2 (fun hlt => ?_) (fun hlt => ?_)⟩
      · have hlt : (0 : Int) < (left : Int) := of_decide_eq_true hlt
        have lq := totQ_len qs
        have lv : vs.length = qs.length := by rw [dpAll_len hd, List.length_map]
        -- inner
        refine ⟨_, rfl, _, _, rfl, rfl, _, rfl, d, g, c, 4, rfl, D2, by decide, by decide, fun r H3 r0 r1 D3 u3 => ⟨_, _, rfl, nm_ ?_⟩⟩
        obtain ⟨k, hk, ek⟩ : ∃ k : Nat, k + 1 ≤ left ∧ (if r < (left : Int) - 1 then r else (left : Int) - 1) = (k : Int) := by
          by_cases h : r < (left : Int) - 1
          · exact ⟨r.toNat, by omega, by rw [if_pos h]; omega⟩
          · exact ⟨left - 1, by omega, by rw [if_neg h]; omega⟩
        rw [ek]
        have h3 := u3 _ _ h2 lD.1 lD.2.1
        have hd := u3.dpAll D2 (tup_sps qs) hd
        have u3 := u2.trans u3
        -- body
        refine ⟨_, rfl, (k : Int), rfl, by omega, by omega, fun L nL => ?_⟩
        have LD := D3.apart nL
        refine lc_it walk_range (fun i H4 => Same H3 H4 ∧ ∃ ws : List V, H4 L = some (.lst ws) ∧ DpAll K H4 ws (tellsL i)) ⟨same_upd nL, [], upd_same, .nil⟩ (fun _ _ _ _ => trivial) ?_ ?_
        · rintro i x H4 H5 hi ⟨s4, ws, hL, hws⟩ ⟨rfl, rfl⟩
          refine ⟨rfl, yes_ ?_⟩
          refine run_tup (K := K) (ds := [.str "tell", .int (i : Int)]) ?zA fun p6 H6 n6 s6 d6 => ?_
          case zA =>
            refine mk_cons mk_str (mk_cons (mk_var rfl ?_) mk_nil)
            show Dp K H5 (.int (0 + (i : Int))) (.int (i : Int))
            rw [show (0 : Int) + (i : Int) = ((i : Nat) : Int) by omega]
            exact .int _
          refine ⟨_, s6 _ _ hL, ?_, (s4.trans s6).own nL, ws ++ [.ref p6], upd_same, ?_⟩
          · rw [dpAll_len hws]
            unfold tellsL
            rw [List.length_map, List.length_range]
            exact small1000 (by omega)
          · have e6 := dpAll_app (s6.dpAll hws) (.cons d6 .nil)
            have e : tellsL i ++ [.tuple [.str "tell", .int (i : Int)]] = tellsL (i + 1) := by
              unfold tellsL
              rw [List.range_succ, List.map_append]
              rfl
            rw [e] at e6
            exact dpAll_keep (fun _ _ h => sqt_setl (s6 _ _ hL) h) (tup_tells _) e6
        · rintro H4 ⟨s4, ws, hL, hws⟩
          rw [show (k : Int).toNat = k by omega] at hws
          refine ⟨L, _, rfl, .inl ⟨sl hL, fun t nt => nm_ ?_⟩⟩
          have s5 := s4.trans (same_upd (o := .tup ws) nt)
          have ht5 : Dp K (upd H4 t (.tup ws)) (.ref t) (.tuple (tellsL k)) := .tup (stt upd_same) ((same_upd nt).dpAll hws)
          generalize upd H4 t (.tup ws) = H5 at s5 ht5 ⊢
          have h5 := s5 _ _ h3
          have D5 := D3.same s5
          have u5 := u3.trans (Up.of s5)
          have hd := s5.dpAll hd
          -- append
          refine ⟨_, rfl, .inl ⟨rfl, _, sl h5⟩, ?_⟩
          refine cons_ ?_
          refine op_ ?_
          refine run_lst (K := K) (ds := [.tuple [.str "shield", .tuple (tellsL k)], .tuple [.str "try", .tuple [], .tuple (tellsL k)], .tuple [.str "often", .int 2, .tuple (tellsL k)]]) ?zA fun p6 H6 vs6 n6 s6 l6 d6 => ?_
          case zA =>
            repeat' first | exact mk_nil | exact mk_str | exact mk_int | exact mk_var rfl ht5 | apply mk_tup | apply mk_cons
            all_goals simp
          have D6 := D5.same s6
          have pD := D5.apart n6
          refine ⟨_, rfl, d, g, c, 3, rfl, D6, by decide, by decide, fun r H7 r0 r1 D7 u7 => ?_⟩
          obtain ⟨j, rfl⟩ : ∃ j : Nat, r = (j : Int) := ⟨r.toNat, by omega⟩
          have hj : j < 3 := by omega
          have d7 := u7.dpAll D6 (by
            show (tupD _ && (tupD _ && (tupD _ && true))) = true
            have := tup_tells (List.range k)
            simp only [tupD, tupAll, tellsL, this, Bool.and_self]) d6
          obtain ⟨v, ev, hv⟩ := dp_at d7 (i := j) (d := sprow (j, k)) (by
            match j, hj with
            | 0, _ => rfl
            | 1, _ => rfl
            | 2, _ => rfl)
          have h7 := u7 _ _ (s6 _ _ h5) lD.1 lD.2.1
          refine ⟨p6, _, (j : Int), v, rfl, rfl, sl (u7 _ _ l6 pD.1 pD.2.1), atI_nat ev, ?_⟩
          have e7 := dpAll_app (u7.dpAll D6 (tup_sps qs) (s6.dpAll hd)) (.cons hv .nil)
          rw [show qs.map sprow ++ [sprow (j, k)] = (qs ++ [(j, k)]).map sprow by rw [List.map_append]; rfl] at e7
          refine ⟨l, _, _, rfl, rfl, h7, by rw [lv]; exact small1000 (by omega), ?_⟩
          have e8 := dpAll_keep (fun _ _ h => sqt_setl (zs := vs ++ [v]) h7 h) (tup_sps (qs ++ [(j, k)])) e7
          have l8 : (upd H7 l (.lst (vs ++ [v]))) l = some (.lst (vs ++ [v])) := upd_same
          have D8 := D7.set (o := .lst (vs ++ [v])) lD.1 lD.2.1 lD.2.2
          have u8 := ((u5.trans (Up.of s6)).trans u7).own (o := .lst (vs ++ [v])) nl
          generalize upd H7 l (.lst (vs ++ [v])) = H8 at e8 l8 D8 u8 ⊢
          refine ⟨_, rfl, _, _, rfl, rfl, _, rfl, _, _, rfl, rfl, nm_ ?_⟩
          refine ⟨⟨qs ++ [(j, k)], left - 1 - k, vs ++ [v], some (.int (k : Int)), some (.ref t), y6, ?_, l8, e8, ?_, D8, u8⟩, ?_⟩
          · rw [show ((left - 1 - k : Nat) : Int) = (left : Int) - 1 - (k : Int) by omega]
            rfl
          · rw [totQ_app]
            show totQ qs + (1 + k) + (left - 1 - k) = m
            omega
          · show ((left : Int) - 1 - (k : Int)).toNat < (left : Int).toNat
            omega
      · have h0 : left = 0 := by
          have : ¬ (0 : Int) < (left : Int) := fun z => hlt (decide_eq_true z)
          omega
        refine ⟨_, rfl, l, _, rfl, .inl ⟨sl h2, fun t nt => ?_⟩⟩
        have s3 := same_upd (o := .tup vs) nt
        exact q t qs _ (by omega) (D2.same s3) (u2.trans (Up.of s3)) (.tup (stt upd_same) (s3.dpAll hd))
    · rintro σ H2 Q1 Q2 hq ⟨v, e1, i, j, e2, e3, b, e4, h⟩
      exact ⟨v, e1, i, j, e2, e3, b, e4, hq _ _ h⟩
end
end T06
namespace T06
open PySem PySem.Spec PyProof.Rows L2 HX HB HG HU HH HD HS HV HQ HK TL
theorem nodup_map {α β : Type} {f : α → β} {l : List α} (h : l.Nodup) (hf : ∀ a b, f a = f b → a = b) : (l.map f).Nodup := List.pairwise_map.mpr (List.Pairwise.imp (fun ne e => ne (hf _ _ e)) h)
/-! ### names cut to six letters -/
def cutn (z : Str) (k : Nat) : Str := cutS (z ++ sg (k + 97)) (some (-6)) none
theorem cutn_tl (z : Str) (k : Nat) : (cutn z k).cps.toList = z.cps.toList.drop (z.length - 5) ++ [k + 97] := by
  unfold cutn cutS
  have el : (z ++ sg (k + 97)).length = z.length + 1 := by rw [strLen_append]; rfl
  have e : HT.sIx (z ++ sg (k + 97)).length 0 (some (-6)) = z.length - 5 := by
    show (if (-6 : Int) < 0 then ((-6 : Int) + ((z ++ sg (k + 97)).length : Int)).toNat else min (-6 : Int).toNat (z ++ sg (k + 97)).length) = z.length - 5
    rw [if_pos (by decide), el]
    omega
  have et : (z ++ sg (k + 97)).cps.toList = z.cps.toList ++ [k + 97] := tl_append z (sg (k + 97))
  rw [e, HT.sIx_none, et, el]
  have ez : z.length = z.cps.toList.length := by simp [Str.length]
  rw [List.drop_append_of_le_length (by omega)]
  rw [List.take_of_length_le (by rw [List.length_append, List.length_drop]; show _ + 1 ≤ _; omega)]
theorem cutn_name {z : Str} (h : isNameL z = true) {k : Nat} (hk : k < 26) : isNameL (cutn z k) = true := by
  have L := Low.of h
  have L2 : Low (cutn z k) := low_cut (low_app L (low_sg hk) (by have := L.few; unfold isNameL at h; simp only [Bool.and_eq_true, decide_eq_true_eq] at h; show z.length + 1 ≤ 1000; omega)) _ _
  have el : (cutn z k).length = (z.length - (z.length - 5)) + 1 := by
    have := congrArg List.length (cutn_tl z k)
    rw [List.length_append, List.length_drop] at this
    have e2 : (cutn z k).cps.toList.length = (cutn z k).length := by simp [Str.length]
    have ez : z.length = z.cps.toList.length := by simp [Str.length]
    rw [← e2, this, ez]
    rfl
  exact L2.name (by omega) (by omega)
theorem cutn_inj {z : Str} {i j : Nat} (h : cutn z i = cutn z j) : i = j := by
  have e := congrArg (fun y : Str => y.cps.toList) h
  have e1 : z.cps.toList.drop (z.length - 5) ++ [i + 97] = z.cps.toList.drop (z.length - 5) ++ [j + 97] := (cutn_tl z i).symm.trans (e.trans (cutn_tl z j))
  have e2 := (List.cons.inj (List.append_cancel_left e1)).1
  omega
def fiveN (z : Str) (n : Nat) : List Str := (List.range n).map (cutn z)
theorem five_name {z : Str} (h : isNameL z = true) {n : Nat} (hn : n ≤ 5) : ∀ y ∈ fiveN z n, isNameL y = true := fun y hy => by
  obtain ⟨k, hk, rfl⟩ := List.mem_map.mp hy
  exact cutn_name h (by have := List.mem_range.mp hk; omega)
theorem five_nd (z : Str) (n : Nat) : (fiveN z n).Nodup := by
  unfold fiveN
  exact nodup_map List.nodup_range fun a b h => cutn_inj h
theorem five_len (z : Str) (n : Nat) : (fiveN z n).length = n := by
  unfold fiveN
  rw [List.length_map, List.length_range]
theorem five_take (z : Str) {m n : Nat} (h : m ≤ n) : (fiveN z n).take m = fiveN z m := by
  unfold fiveN
  rw [← List.map_take, List.take_range, Nat.min_eq_left h]
theorem five_atI {j : Nat} (h : j < 5) : atI ("abcde" : Str).cps.toList (j : Int) = some (j + 97) := by
  refine atI_nat ?_
  have e : ("abcde" : Str).cps.toList = (List.range 5).map (· + 97) := by decide +kernel
  rw [e, List.getElem?_map, List.getElem?_range h]
  rfl
/-! ### heads at their bounds -/
def headL (z : Str) (m : Nat) (n : Int) : List (Str × Int) := (fiveN z m).map fun y => (y, n)
theorem head_ok {z : Str} (h : isNameL z = true) {m : Nat} (hm : m ≤ 5) (n : Int) : OkD (headL z m n) := by
  have e : (headL z m n).map (·.1) = fiveN z m := by
    unfold headL
    rw [List.map_map]
    exact List.map_id' _
  refine ⟨by rw [e]; exact five_nd z m, by unfold headL; rw [List.length_map, five_len]; omega, fun q hq => ?_⟩
  obtain ⟨y, hy, rfl⟩ := List.mem_map.mp hq
  exact ⟨(Low.of (five_name h hm y hy)).ok, rfl⟩
theorem head_sizes {z : Str} (h : isNameL z = true) {m : Nat} (h1 : 1 ≤ m) (h5 : m ≤ 5) (n l u : Int) : sizesD l u (headL z m n) = (decide (m ≤ 4) && decide (l ≤ n ∧ n ≤ u)) := by
  unfold sizesD
  have e : (headL z m n).length = m := by unfold headL; rw [List.length_map, five_len]
  rw [e]
  congr 1
  by_cases hr : l ≤ n ∧ n ≤ u
  · rw [decide_eq_true hr, List.all_eq_true]
    intro q hq
    obtain ⟨y, hy, rfl⟩ := List.mem_map.mp hq
    show (isNameL y && decide (l ≤ n ∧ n ≤ u)) = true
    rw [five_name h h5 y hy, decide_eq_true hr]
    rfl
  · rw [decide_eq_false hr, List.all_eq_false]
    have h0 : 0 < (fiveN z m).length := by rw [five_len]; omega
    refine ⟨((fiveN z m)[0], n), List.mem_map.mpr ⟨_, List.getElem_mem h0, rfl⟩, ?_⟩
    show ¬ (isNameL _ && decide (l ≤ n ∧ n ≤ u)) = true
    rw [decide_eq_false hr, Bool.and_false]
    decide
theorem prog_empty (cs : List (Str × Int)) (ls : List Str) (ws : List (Str × Int)) : progD 30 cs ls ws (.tuple []) = if sizesD (-99) 99 cs && (locksD ls && sizesD 1 4 ws) then none else some [] := by
  unfold progD
  rw [show firstD (cs.map (·.1)) ls (ws.map (·.1)) 30 (.tuple []) = none from wrong_nil ..]
  split
  · dsimp only
    rw [places_len]
    rfl
  · rfl
theorem sizes_nil (l u : Int) : sizesD l u [] = true := rfl
theorem locks_five {z : Str} (h : isNameL z = true) {m : Nat} (h5 : m ≤ 5) : locksD (fiveN z m) = decide (m ≤ 4) := by
  unfold locksD
  rw [five_len, List.all_eq_true.mpr (five_name h h5), decide_eq_true (five_nd z m), Bool.and_self, Bool.and_true]
theorem merge_head (z : Str) (m : Nat) (n : Int) : mergeK [] (dI (headL z m n)) = dI (headL z m n) := by
  have := merge_new (dI (headL z m n)) [] ?_
  · simpa using this
  · rw [List.nil_append]
    unfold dI headL
    rw [List.map_map, List.map_map]
    exact nodup_map (five_nd z m) fun a b e => Sum.inr.inj e
end T06
namespace T06
open PySem PySem.Spec PyProof.Rows L2 HX HB HG HU HH HD HS HV HQ HK TL
section
variable {P : Program} {w : World} {K : PySem.W.Frag} {mg : Str → Option Value} {base : Heap}
theorem good_nil : Good (.tuple []) 30 := ⟨by decide, by decide, by decide⟩
theorem short_nil : Short (some []) := fun pl h => by cases h; exact ⟨by decide, fun _ h => by cases h⟩
theorem short_none : Short none := fun pl h => by cases h
theorem res_show {r : Option (List Int)} (h : Short r) : (resP r).showable = true ∧ (resP r).hasDict = false ∧ (resP r).depth ≤ 60 ∧ (resP r).shown.length ≤ sizeLine := by
  obtain ⟨h1, h2, h3, h4, h5⟩ := resP_leaf h
  exact ⟨h2, h3, by omega, PyData.shown_fits_bulk (B := 8) (by decide) (by decide) h1 (Nat.le_trans h4 (by decide))⟩
def spHeads : Sp := fun vs H Q _ => ∃ (v : V) (z : Str), vs = [v, .str z] ∧ isNameL z = true ∧ ∀ H', Same H H' → Q (.bl true) H'
theorem ok_heads (T : Tp K w mg) : FnG P w K mg base CX0 70 T.f_heads T.fd_heads ["_law_draw", "_law_word"] spHeads := by
  refine okGn T.D_heads.F sc_heads (fun vs H Q E h => ?_) (fun cdv A outer s H vs Q E sh hr h => ?_)
  · obtain ⟨v, z, rfl, _⟩ := h
    rfl
  · obtain ⟨v, z, rfl, hz, q⟩ := h
    have z6 : z.length ≤ 6 := by unfold isNameL at hz; simp only [Bool.and_eq_true, decide_eq_true_eq] at hz; omega
    refine ⟨_, (pss_cons (ps_set (i := 2) sc_heads.nd rfl (.inr rfl) (pe_lc (own := [("_law_k", 11)]) (g := gName 11) (by rfl) sc_heads.nd (pi_range1 (by rfl) T.range (pa_cons pe_int pa_nil)) (blkOk_by (own := [("_law_k", 11)]) (N := ["_law_draw", "_law_word", "_law_names", "_law_low", "_law_high", "_law_kind", "_law_number", "_law_many", "_law_heads", "_law_due", "_law_some", "_law_k", "_law_name_here"]) (sc := defScope s_heads) (by decide +kernel)) (fun _ _ _ _ _ => (pg_name (i := 11) sc_heads.nd rfl (.inl rfl))) (fun _ _ _ _ _ => pts_nil) (fun _ _ _ _ _ => (pe_slice sl_str (pe_op op_add_str (pv 1) (pe_ix ix_str pe_str (pv 11) (fun _ _ => rfl))) (po_some (pe_un un_neg pe_int)) po_none))))
  (pss_cons (ps_for PassesOwn.never rfl (pi_list (pe_lst (pa_cons (pe_tup (pa_cons (pe_un un_neg pe_int) (pa_cons pe_int (pa_cons pe_int pa_nil)))) (pa_cons (pe_tup (pa_cons pe_int (pa_cons pe_int (pa_cons pe_int pa_nil)))) pa_nil)))) (pg_tup rfl (pgs_cons (pg_name (i := 3) sc_heads.nd rfl (.inl rfl)) (pgs_cons (pg_name (i := 4) sc_heads.nd rfl (.inl rfl)) (pgs_cons (pg_name (i := 5) sc_heads.nd rfl (.inl rfl)) pgs_nil))))
  (pss_one (ps_for PassesOwn.never rfl (pi_list (pe_lst (pa_cons (pe_tup (pa_cons (pv 3) (pa_cons pe_int pa_nil))) (pa_cons (pe_tup (pa_cons (pv 4) (pa_cons pe_int pa_nil))) (pa_cons (pe_tup (pa_cons (pe_op op_sub (pv 3) pe_int) (pa_cons pe_int pa_nil))) (pa_cons (pe_tup (pa_cons (pe_op op_add (pv 4) pe_int) (pa_cons pe_int pa_nil))) (pa_cons (pe_tup (pa_cons (pv 3) (pa_cons pe_int pa_nil))) (pa_cons (pe_tup (pa_cons (pv 4) (pa_cons pe_int pa_nil))) pa_nil)))))))) (pg_tup rfl (pgs_cons (pg_name (i := 6) sc_heads.nd rfl (.inr rfl)) (pgs_cons (pg_name (i := 7) sc_heads.nd rfl (.inl rfl)) pgs_nil)))
  (pss_cons (ps_set (i := 8) sc_heads.nd rfl (.inl rfl) (pe_lst (pa_cons pe_non (pa_cons pe_non (pa_cons pe_non pa_nil)))))
  (pss_cons (ps_asg (pe_callTy (call_dictP rfl) (by rfl) T.dict (by decide +kernel) (pa_cons (pe_lc (own := [("_law_name_here", 12)]) (g := gName 12) (by rfl) sc_heads.nd (pi_list (pe_slice sl_list (pv 2) po_none (po_some (pv 7)))) (blkOk_by (own := [("_law_name_here", 12)]) (N := ["_law_draw", "_law_word", "_law_names", "_law_low", "_law_high", "_law_kind", "_law_number", "_law_many", "_law_heads", "_law_due", "_law_some", "_law_k", "_law_name_here"]) (sc := defScope s_heads) (by decide +kernel)) (fun _ _ _ _ _ => (pg_name (i := 12) sc_heads.nd rfl (.inl rfl))) (fun _ _ _ _ _ => pts_nil) (fun _ _ _ _ _ => (pe_tup (pa_cons (pv 12) (pa_cons (pv 6) pa_nil))))) pa_nil)) (pg_sub (pv 8) (pv 5) set_list))
  (Evl.pss_cut (ps_set (i := 9) sc_heads.nd rfl (.inl rfl) (pe_ifExp (PW.pt (pw_or (pt_cmpR op_eq (pv 7) pe_int (nomark _)) (pw_or1 (pt_not (pt_chain op_le op_le (pv 3) (pv 6) (pv 4)))))) (pe_tup pa_nil) pe_non))
  (pss_one (ps_if (pt_cmpR op_ne (pe_callB (HK.call_reprA sh hr.units) (by rfl) T.repr (by decide +kernel) (pa_cons (pcall T.D_refused (ok_refused T) (hr.mono (by omega)) (by rfl) (pa_cons (pe_tup pa_nil) (pa_cons (pe_ix ix_list (pv 8) pe_int (fun _ _ => rfl)) (pa_cons (pe_ix ix_list (pv 8) pe_int (fun _ _ => rfl)) (pa_cons (pe_ix ix_list (pv 8) pe_int (fun _ _ => rfl)) pa_nil))))) pa_nil)) (pe_callB (HK.call_reprA sh hr.units) (by rfl) T.repr (by decide +kernel) (pa_cons (pv 9) pa_nil)) (nomark _))
  (pss_one (ps_ret pe_bl))
  pss_nil))))))))
  (pss_cons (ps_setLc (i := 10) (own := [("_law_many", 7)]) (g := gName 7) (by rfl) sc_heads.nd rfl rfl (sw_true rfl rfl rfl (by decide +kernel)) (pi_list (pe_lst (pa_cons pe_int (pa_cons pe_int (pa_cons pe_int (pa_cons pe_int pa_nil)))))) (blkOk_by (own := [("_law_many", 7)]) (N := ["_law_draw", "_law_word", "_law_names", "_law_low", "_law_high", "_law_kind", "_law_number", "_law_many", "_law_heads", "_law_due", "_law_some", "_law_k", "_law_name_here"]) (sc := defScope s_heads) (by decide +kernel)) (fun _ _ _ _ _ => (pg_name (i := 7) sc_heads.nd rfl (.inl rfl))) (fun _ _ _ _ _ => pts_nil) (fun _ _ _ _ _ => (pcall T.D_refused (ok_refused T) (hr.mono (by omega)) (by rfl) (pa_cons (pe_tup pa_nil) (pa_cons pe_non (pa_cons (pe_slice (show SlR _ (rSlL K) from sl_list) (pv 2) po_none (po_some (pv 7))) (pa_cons pe_non pa_nil)))))))
  (pss_one (ps_ret (pe_cmpR op_eq (pe_callB (HK.call_reprA sh hr.units) (by rfl) T.repr (by decide +kernel) (pa_cons (pv 10) pa_nil)) (pe_callB (HK.call_reprA sh hr.units) (by rfl) T.repr (by decide +kernel) (pa_cons (pe_lst (pa_cons pe_non (pa_cons pe_non (pa_cons pe_non (pa_cons (pe_tup pa_nil) pa_nil))))) pa_nil)) (nomark _))))))), ?_⟩
    -- names
    refine ⟨_, rfl, by decide, by decide, fun L nL => ?_⟩
    refine lc_it walk_range (fun i H2 => Same H H2 ∧ H2 L = some (.lst ((fiveN z i).map V.str))) ⟨same_upd nL, upd_same⟩ (fun _ _ _ _ => trivial) ?_ ?_
    · rintro i x H3 H4 hi ⟨sm, hL⟩ ⟨rfl, rfl⟩
      have hi : i < 5 := hi
      refine ⟨rfl, yes_ ?_⟩
      refine ⟨_, rfl, _, rfl, _, _, i + 97, rfl, rfl, by show 5 ≤ sizeLine; decide, by rw [show (0 : Int) + (i : Int) = ((i : Nat) : Int) by omega]; exact five_atI hi, _, _, rfl, rfl, ?_, _, rfl, _, rfl, _, rfl, ?_, _, hL, ?_, sm.own nL, ?_⟩
      · show z.length + 1 ≤ sizeLine
        exact Nat.le_of_lt (small1000 (by omega))
      · rw [strLen_append]
        show z.length + 1 ≤ sizeLine
        exact Nat.le_of_lt (small1000 (by omega))
      · rw [List.length_map, five_len]
        exact small1000 (by omega)
      · rw [upd_same]
        unfold fiveN
        rw [List.range_succ, List.map_append, List.map_append]
        rfl
    rintro H2 ⟨s02, hL⟩
    have hL : H2 L = some (.lst ((fiveN z 5).map V.str)) := hL
    refine nm_ ?_
    -- the bounds
    refine seq_ ?_
    refine for_lst (K := K) (ds := [.tuple [.int (-99), .int 99, .int 0], .tuple [.int 1, .int 4, .int 2]]) ?zA fun B HB vsB nB sB lB dB => ?_
    case zA =>
      have hneg : MkE K _ H2 (tUn (rU fun i => .int (-i)) (tC (.int 99))) (.int (-99)) := mk_of (σ := [some v, some (.str z), some (.ref L), none, none, none, none, none, none, none, none, none, none]) fun H7 Q7 s7 q7 => ⟨99, rfl, q7 _ _ (Same.refl _) (.int _)⟩
      repeat' first | exact mk_nil | exact hneg | exact mk_int | apply mk_tup | apply mk_cons
      all_goals simp
    have s0B := s02.trans sB
    have hL := sB _ _ hL
    refine ⟨fun i σ H3 => ∃ y3 y4 y5 y6 y7 y8 y9 y10 y11 y12, σ = [some v, some (.str z), some (.ref L), y3, y4, y5, y6, y7, y8, y9, y10, y11, y12] ∧ Same HB H3, ⟨_, _, _, _, _, _, _, _, _, _, rfl, Same.refl _⟩, (fun i σ H3 ⟨_, _, _, _, _, _, _, _, _, _, _, s3⟩ => sl (s3 _ _ lB)), ?_, ?_⟩
    · rintro i x dx σ H3 hx hdx hv ⟨y3, y4, y5, y6, y7, y8, y9, y10, y11, y12, rfl, s3⟩
      obtain ⟨low, high, kd, hkd, rfl⟩ : ∃ (low high : Int) (kd : Nat), ((low = -99 ∧ high = 99 ∧ kd = 0) ∨ (low = 1 ∧ high = 4 ∧ kd = 2)) ∧ dx = .tuple [.int low, .int high, .int (kd : Int)] := by
        match i, hdx with
        | 0, h => cases h; exact ⟨-99, 99, 0, .inl ⟨rfl, rfl, rfl⟩, rfl⟩
        | 1, h => cases h; exact ⟨1, 4, 2, .inr ⟨rfl, rfl, rfl⟩, rfl⟩
        | n + 2, h => simp at h
      obtain ⟨t, xs, rfl, ht, hall⟩ := dp_tup (s3.dp hv)
      have exs := dp_ints_inv (ns := [low, high, (kd : Int)]) hall
      subst exs
      refine ⟨t, _, rfl, ht, rfl, _, _, rfl, _, _, rfl, _, _, rfl, rfl, ?_⟩
      have s03 := s0B.trans s3
      have hL := s3 _ _ hL
      -- the numbers
      refine for_lst (K := K) (ds := [.tuple [.int low, .int 4], .tuple [.int high, .int 4], .tuple [.int (low - 1), .int 1], .tuple [.int (high + 1), .int 1], .tuple [.int low, .int 5], .tuple [.int high, .int 5]]) ?zA fun C HC vsC nC sC lC dC => ?_
      case zA =>
        have hlo : Dp K H3 (.int low) (.int low) := .int _
        have hhi : Dp K H3 (.int high) (.int high) := .int _
        have hm : MkE K _ H3 (tOp (rI0 fun i j => .int (i - j)) (tVar 3) (tC (.int 1))) (.int (low - 1)) := mk_of (σ := [some v, some (.str z), some (.ref L), some (.int low), some (.int high), some (.int (kd : Int)), y6, y7, y8, y9, y10, y11, y12]) fun H7 Q7 s7 q7 => ⟨_, rfl, _, _, rfl, rfl, q7 _ _ (Same.refl _) (.int _)⟩
        have hp : MkE K _ H3 (tOp (rI0 fun i j => .int (i + j)) (tVar 4) (tC (.int 1))) (.int (high + 1)) := mk_of (σ := [some v, some (.str z), some (.ref L), some (.int low), some (.int high), some (.int (kd : Int)), y6, y7, y8, y9, y10, y11, y12]) fun H7 Q7 s7 q7 => ⟨_, rfl, _, _, rfl, rfl, q7 _ _ (Same.refl _) (.int _)⟩
        repeat' first | exact mk_nil | exact mk_int | exact hm | exact hp | exact mk_var rfl hlo | exact mk_var rfl hhi | apply mk_tup | apply mk_cons
        all_goals simp
      have s0C := s03.trans sC
      have hL := sC _ _ hL
      have s3C := s3.trans sC
      refine ⟨fun i σ H4 => ∃ y6 y7 y8 y9 y10 y11 y12, σ = [some v, some (.str z), some (.ref L), some (.int low), some (.int high), some (.int (kd : Int)), y6, y7, y8, y9, y10, y11, y12] ∧ Same HC H4, ⟨_, _, _, _, _, _, _, rfl, Same.refl _⟩, (fun i σ H4 ⟨_, _, _, _, _, _, _, _, s4⟩ => sl (s4 _ _ lC)), ?_, fun σ H4 ⟨y6, y7, y8, y9, y10, y11, y12, e4, s4⟩ => ⟨_, _, _, _, _, _, _, _, _, _, e4, s3C.trans s4⟩⟩
      rintro j x dx σ H4 hx hdx hv ⟨y6, y7, y8, y9, y10, y11, y12, rfl, s4⟩
      obtain ⟨num, m, hm1, hm5, rfl⟩ : ∃ (num : Int) (m : Nat), 1 ≤ m ∧ m ≤ 5 ∧ dx = .tuple [.int num, .int (m : Int)] := by
        match j, hdx with
        | 0, h => cases h; exact ⟨low, 4, by decide, by decide, rfl⟩
        | 1, h => cases h; exact ⟨high, 4, by decide, by decide, rfl⟩
        | 2, h => cases h; exact ⟨low - 1, 1, by decide, by decide, rfl⟩
        | 3, h => cases h; exact ⟨high + 1, 1, by decide, by decide, rfl⟩
        | 4, h => cases h; exact ⟨low, 5, by decide, by decide, rfl⟩
        | 5, h => cases h; exact ⟨high, 5, by decide, by decide, rfl⟩
        | n + 6, h => simp at h
      obtain ⟨t2, xs, rfl, ht2, hall⟩ := dp_tup (s4.dp hv)
      have exs := dp_ints_inv (ns := [num, (m : Int)]) hall
      subst exs
      refine ⟨t2, _, rfl, ht2, rfl, _, _, rfl, _, _, rfl, rfl, ?_⟩
      have hL := s4 _ _ hL
      -- heads
      refine seq_set ?_
      refine run_lst (K := K) (ds := [.none, .none, .none]) (mk_cons mk_non (mk_cons mk_non (mk_cons mk_non mk_nil))) fun lH H5 vs5 n5 s5 l5 d5 => nm1 ?_
      have LlH : L ≠ lH := ne_of_none hL n5
      obtain rfl : vs5 = [.non, .non, .non] := by
        cases d5 with
        | cons h t => cases h; cases t with
          | cons h t => cases h; cases t with
            | cons h t => cases h; cases t; rfl
      have hL := s5 _ _ hL
      -- its dict
      refine seq_set ?_
      refine ⟨_, rfl, _, rfl, _, rfl, L, _, rfl, sl hL, fun p6 n6 => ⟨p6, rfl, ⟨_, sl upd_same⟩, fun D nD => ?_⟩⟩
      rw [cut_to, ← List.map_take, five_take z hm5] at nD ⊢
      have s6 := same_upd (o := .lst ((fiveN z m).map V.str)) n6
      have h6 : (upd H5 p6 (.lst ((fiveN z m).map V.str))) p6 = some (.lst ((fiveN z m).map V.str)) := upd_same
      generalize upd H5 p6 (.lst ((fiveN z m).map V.str)) = H6 at s6 h6 nD ⊢
      refine lc_it (walk_list (xs := (fiveN z m).map V.str)) (fun i H7 => Same H6 H7 ∧ ∃ ps : List Addr, H7 D = some (.lst (ps.map V.ref)) ∧ Paired (fun p (kv : Key × V) => SqT K H7 p [kV kv.1, kv.2]) ps (dI (headL z i num))) ⟨same_upd nD, [], upd_same, .nil⟩ (fun i H7 _ g => sl (g.1 _ _ h6)) ?_ ?_
      · rintro i x H7 H8 hi ⟨sm, ps, hD, hps⟩ ⟨rfl, g1⟩
        have hi : i < m := by rw [List.length_map, five_len] at hi; exact hi
        have ex : ((fiveN z m).map V.str)[i]? = some (.str (cutn z i)) := by
          unfold fiveN
          rw [List.getElem?_map, List.getElem?_map, List.getElem?_range hi]
          rfl
        rw [ex] at g1
        cases g1
        refine ⟨rfl, yes_ ?_⟩
        refine run_tup (K := K) (ds := [.str (cutn z i), .int num]) ?zA fun p8 H9 n8 s8 d8 => ?_
        case zA =>
          exact mk_cons (mk_var rfl (.str _)) (mk_cons (mk_var rfl (.int _)) mk_nil)
        have lps : ps.length = i := by
          have := hps.length
          rw [this]
          unfold dI headL
          rw [List.length_map, List.length_map, five_len]
        obtain ⟨a8, xs8, e8, h8, hall8⟩ := dp_tup d8
        cases e8
        have ex8 : xs8 = [.str (cutn z i), .int num] := by
          cases hall8 with
          | cons h t => cases h; cases t with
            | cons h t => cases h; cases t; rfl
        subst ex8
        refine ⟨_, s8 _ _ hD, ?_, (sm.trans s8).own nD, ps ++ [p8], ?_, ?_⟩
        · rw [List.length_map, lps]
          exact small1000 (by omega)
        · rw [upd_same, List.map_append]
          rfl
        · have e : dI (headL z (i + 1) num) = dI (headL z i num) ++ [(Sum.inr (cutn z i), .int num)] := by
            unfold dI headL fiveN
            rw [List.range_succ, List.map_append, List.map_append, List.map_append]
            rfl
          rw [e]
          refine paired_app (paired_imp (fun _ _ h => sqt_setl (s8 _ _ hD) (s8.sqt h)) hps) (.cons (sqt_setl (s8 _ _ hD) h8) .nil)
      · rintro H7 ⟨sm, ps, hD, hps⟩
        rw [List.length_map, five_len] at hps
        have s57 := s6.trans sm
        refine ⟨D, ps, dI (headL z m num), rfl, sl hD, hps, fun pd npd => ?_⟩
        rw [merge_head]
        have s8 := s57.trans (same_upd (o := .dK (dI (headL z m num))) npd)
        have hpd : (upd H7 pd (.dK (dI (headL z m num)))) pd = some (.dK (dI (headL z m num))) := upd_same
        generalize upd H7 pd (.dK (dI (headL z m num))) = H8 at s8 hpd ⊢
        have lD : pd ≠ lH := ne_of hpd (s8 _ _ l5) (by intro z; cases z)
        refine ⟨_, rfl, _, rfl, lH, _, (kd : Int), kd, rfl, rfl, s8 _ _ l5, (by rcases hkd with ⟨_, _, rfl⟩ | ⟨_, _, rfl⟩ <;> rfl), ?_⟩
        have s9 : Same H4 (upd H8 lH (.lst ([V.non, V.non, V.non].set kd (.ref pd)))) := (s5.trans s8).own n5
        have l9 : (upd H8 lH (.lst ([V.non, V.non, V.non].set kd (.ref pd)))) lH = some (.lst ([V.non, V.non, V.non].set kd (.ref pd))) := upd_same
        have p9 : (upd H8 lH (.lst ([V.non, V.non, V.non].set kd (.ref pd)))) pd = some (.dK (dI (headL z m num))) := by rw [upd_ne lD]; exact hpd
        generalize upd H8 lH (.lst ([V.non, V.non, V.non].set kd (.ref pd))) = H9 at s9 l9 p9 ⊢
        -- due
        refine ⟨fun σ HA => ∃ dv y10 y11 y12, σ = [some v, some (.str z), some (.ref L), some (.int low), some (.int high), some (.int (kd : Int)), some (.int num), some (.int (m : Int)), some (.ref lH), some dv, y10, y11, y12] ∧ Same H9 HA ∧
          Res K HA (if m = 5 ∨ ¬ (low ≤ num ∧ num ≤ high) then some [] else none) dv, ?_, ?_⟩
        · refine ⟨_, rfl, rfl, _, rfl, ?_⟩
          have bad : (m = 5 ∨ ¬ (low ≤ num ∧ num ≤ high)) → ∀ p : Addr, H9 p = none → Same H9 (upd H9 p (.tup [])) ∧ Res K (upd H9 p (.tup [])) (if m = 5 ∨ ¬ (low ≤ num ∧ num ≤ high) then some [] else none) (.ref p) := fun hb p np => by
            rw [if_pos hb]
            exact ⟨same_upd np, p, rfl, stt upd_same⟩
          by_cases h5 : m = 5
          · exact ite1 (by rw [h5]; rfl) (iteT ⟨Nat.zero_le _, fun p np => ⟨_, y10, y11, y12, rfl, (bad (.inl h5) p np).1, (bad (.inl h5) p np).2⟩⟩)
          · refine ite0 (decide_eq_false (fun e => h5 (by have := V.int.inj e; omega))) ?_
            refine ⟨_, rfl, _, rfl, _, _, rfl, rfl, _, rfl, ?_⟩
            refine ite2 (fun hl => ?_) (fun hl => ?_)
            · have hl := of_decide_eq_true hl
              refine ⟨_, rfl, _, _, rfl, rfl, _, rfl, ?_⟩
              by_cases hh : num ≤ high
              · refine ite0 (by rw [decide_eq_true hh]; rfl) ⟨_, y10, y11, y12, rfl, Same.refl _, ?_⟩
                rw [if_neg (fun h => h.elim h5 fun h => h ⟨hl, hh⟩)]
                rfl
              · exact ite1 (by rw [decide_eq_false hh]; rfl) ⟨Nat.zero_le _, fun p np => ⟨_, y10, y11, y12, rfl, (bad (.inr fun h => hh h.2) p np).1, (bad (.inr fun h => hh h.2) p np).2⟩⟩
            · have hl : ¬ low ≤ num := fun h => hl (decide_eq_true h)
              exact ⟨_, rfl, iteT ⟨Nat.zero_le _, fun p np => ⟨_, y10, y11, y12, rfl, (bad (.inr fun h => hl h.1) p np).1, (bad (.inr fun h => hl h.1) p np).2⟩⟩⟩
        · rintro σ HA ⟨dv, y10, y11, y12, rfl, sA, hdv⟩
          have lA := sA _ _ l9
          have pA := sA _ _ p9
          have s4A := s9.trans sA
          -- what is refused
          refine ⟨Nat.zero_le _, fun pe npe => ?_⟩
          have sE := same_upd (o := .tup []) npe
          have hE : (upd HA pe (.tup [])) pe = some (.tup []) := upd_same
          generalize upd HA pe (.tup []) = HE at sE hE ⊢
          have lE := sE _ _ lA
          have pE := sE _ _ pA
          obtain ⟨v0, v1, v2, e3, cs, ws, okc, okw, ac, aw, e1, eD⟩ : ∃ v0 v1 v2, [V.non, V.non, V.non].set kd (.ref pd) = [v0, v1, v2] ∧ ∃ cs ws, OkD cs ∧ OkD ws ∧ ArgD HE v0 cs ∧ ArgD HE v2 ws ∧ v1 = .non ∧
              progD 30 cs [] ws (.tuple []) = if m = 5 ∨ ¬ (low ≤ num ∧ num ≤ high) then some [] else none := by
            have key : (if (decide (m ≤ 4) && decide (low ≤ num ∧ num ≤ high)) = true then none else some []) = (if m = 5 ∨ ¬ (low ≤ num ∧ num ≤ high) then some ([] : List Int) else none) := by
              by_cases h5 : m = 5
              · rw [decide_eq_false (show ¬ m ≤ 4 by omega), Bool.false_and, if_neg Bool.false_ne_true, if_pos (.inl h5)]
              · by_cases hr : low ≤ num ∧ num ≤ high
                · rw [decide_eq_true hr, decide_eq_true (show m ≤ 4 by omega), Bool.and_self, if_pos rfl, if_neg (fun h : m = 5 ∨ ¬ (low ≤ num ∧ num ≤ high) => h.elim h5 fun h => h hr)]
                · rw [decide_eq_false hr, Bool.and_false, if_neg Bool.false_ne_true, if_pos (.inr hr)]
            rcases hkd with ⟨rfl, rfl, rfl⟩ | ⟨rfl, rfl, rfl⟩
            · refine ⟨_, _, _, rfl, headL z m num, [], head_ok hz hm5 num, okD0, .inr ⟨pd, rfl, pE⟩, .inl ⟨rfl, rfl⟩, rfl, ?_⟩
              rw [prog_empty, head_sizes hz hm1 hm5, sizes_nil, show locksD [] = true from rfl, Bool.and_self, Bool.and_true]
              exact key
            · refine ⟨_, _, _, rfl, [], headL z m num, okD0, head_ok hz hm5 num, .inl ⟨rfl, rfl⟩, .inr ⟨pd, rfl, pE⟩, rfl, ?_⟩
              rw [prog_empty, head_sizes hz hm1 hm5, sizes_nil, show locksD [] = true from rfl, Bool.true_and, Bool.true_and]
              exact key
          subst e1
          rw [e3] at lE
          generalize hdue : (if m = 5 ∨ ¬ (low ≤ num ∧ num ≤ high) then some ([] : List Int) else none) = due at hdv eD
          have hsh : Short due := by
            rw [← hdue]
            split
            · exact short_nil
            · exact short_none
          obtain ⟨t1, t2, t3, t4⟩ := res_show hsh
          refine ⟨_, rfl, lH, _, _, v0, rfl, rfl, sl lE, atI_nat (j := 0) rfl, _, rfl, lH, _, _, .non, rfl, rfl, sl lE, atI_nat (j := 1) rfl, _, rfl, lH, _, _, v2, rfl, rfl, sl lE, atI_nat (j := 2) rfl, ?_⟩
          refine ⟨.ref pe, v0, .non, v2, .tuple [], cs, [], ws, rfl, .tup (stt hE) .nil, good_nil, ac, okc, .inl ⟨rfl, rfl⟩, Nat.zero_le _, (fun _ h => by cases h), aw, okw, by rw [places_len]; exact Nat.zero_le _, fun vr HF sF rF => ?_⟩
          rw [eD] at rF
          refine ⟨vr, resP due, rfl, res_dp rF, t1, t2, t3, t4, ?_⟩
          have sAF := sE.trans sF
          refine ⟨_, rfl, dv, resP due, rfl, res_dp (hdv.same sAF), t1, t2, t3, t4, ?_⟩
          refine ⟨rfl, _, rfl, ite0 (by rw [decide_eq_true rfl]; rfl) ?_⟩
          exact ⟨_, _, _, _, _, _, _, rfl, s4.trans (s4A.trans sAF)⟩
    · rintro σ H3 ⟨y3, y4, y5, y6, y7, y8, y9, y10, y11, y12, rfl, s3⟩
      have hL := s3 _ _ hL
      have s03 := s0B.trans s3
      refine nx_ ?_
      refine seq_set ?_
      unfold tLc iList
      refine run_lst (K := K) (ds := [.int 0, .int 1, .int 4, .int 5]) (mk_cons mk_int (mk_cons mk_int (mk_cons mk_int (mk_cons mk_int mk_nil)))) fun M H4 vs4 n4 s4 l4 d4 => ?_
      have e4 : vs4 = ([0, 1, 4, 5] : List Int).map V.int := dp_ints_inv d4
      subst e4
      have hL := s4 _ _ hL
      refine ⟨M, rfl, ⟨_, sl l4⟩, fun D nD => ?_⟩
      refine lc_it (walk_list (xs := ([0, 1, 4, 5] : List Int).map V.int)) (fun i H5 => Same H4 H5 ∧ ∃ ws : List V, H5 D = some (.lst ws) ∧ DpAll K H5 ws ((([0, 1, 4, 5] : List Nat).take i).map fun m => resP (if m ≤ 4 then none else some []))) ⟨same_upd nD, [], upd_same, .nil⟩ (fun i H5 _ g => sl (g.1 _ _ l4)) ?_ ?_
      · rintro i x H5 H6 hi ⟨sm, ws, hD, hws⟩ ⟨rfl, g1⟩
        obtain ⟨m, hm, em, rfl⟩ : ∃ m : Nat, m ≤ 5 ∧ ([0, 1, 4, 5] : List Nat)[i]? = some m ∧ x = .int (m : Int) := by
          match i, g1 with
          | 0, h => cases h; exact ⟨0, by decide, rfl, rfl⟩
          | 1, h => cases h; exact ⟨1, by decide, rfl, rfl⟩
          | 2, h => cases h; exact ⟨4, by decide, rfl, rfl⟩
          | 3, h => cases h; exact ⟨5, by decide, rfl, rfl⟩
          | n + 4, h => simp at h
        have hL := sm _ _ hL
        refine ⟨rfl, yes_ ?_⟩
        refine ⟨Nat.zero_le _, fun pe npe => ?_⟩
        have sE := same_upd (o := .tup []) npe
        have hE : (upd H6 pe (.tup [])) pe = some (.tup []) := upd_same
        generalize upd H6 pe (.tup []) = HE at sE hE ⊢
        refine ⟨_, rfl, _, rfl, _, rfl, L, _, rfl, sl (sE _ _ hL), fun pn npn => ?_⟩
        rw [cut_to, ← List.map_take, five_take z hm]
        have sF := same_upd (o := .lst ((fiveN z m).map V.str)) npn
        have hF : (upd HE pn (.lst ((fiveN z m).map V.str))) pn = some (.lst ((fiveN z m).map V.str)) := upd_same
        generalize upd HE pn (.lst ((fiveN z m).map V.str)) = HF at sF hF ⊢
        refine ⟨.ref pe, .non, .ref pn, .non, .tuple [], [], fiveN z m, [], rfl, .tup (stt (sF _ _ hE)) .nil, good_nil, .inl ⟨rfl, rfl⟩, okD0, .inr ⟨pn, rfl, hF⟩, by rw [five_len]; omega, fun y hy => (Low.of (five_name hz hm y hy)).ok, .inl ⟨rfl, rfl⟩, okD0, by rw [places_len]; exact Nat.zero_le _, fun vr HG sG rG => ?_⟩
        rw [prog_empty, sizes_nil, sizes_nil, locks_five hz hm, Bool.true_and, Bool.and_true] at rG
        have sEG := (sE.trans sF).trans sG
        refine ⟨_, sEG _ _ hD, ?_, (sm.trans sEG).own nD, ws ++ [vr], upd_same, ?_⟩
        · rw [dpAll_len hws, List.length_map]
          exact small1000 (Nat.le_trans (List.length_take_le' _ _) (by decide))
        · rw [List.take_add_one, em, List.map_append]
          refine dpAll_keep (fun _ _ h => sqt_setl (sEG _ _ hD) h) ?_ (dpAll_app (sEG.dpAll hws) (.cons (res_dp ?_) .nil))
          · refine tupAll_app ?_ ?_
            · generalize ([0, 1, 4, 5] : List Nat).take i = zs
              induction zs with
              | nil => rfl
              | cons y zs ih =>
                simp only [List.map_cons, tupAll, ih, Bool.and_true]
                split <;> rfl
            · simp only [Option.toList, List.map_cons, List.map_nil, tupAll, Bool.and_true]
              split <;> rfl
          · have e : (if decide (m ≤ 4) = true then none else some ([] : List Int)) = if m ≤ 4 then none else some [] := by
              by_cases h : m ≤ 4
              · rw [if_pos (decide_eq_true h), if_pos h]
              · rw [if_neg (by rw [decide_eq_false h]; decide), if_neg h]
            rw [e] at rG
            exact rG
      · rintro H5 ⟨sm, ws, hD, hws⟩
        have hws : DpAll K H5 ws [.none, .none, .none, .tuple []] := hws
        refine nm1 ?_
        refine ⟨_, rfl, .ref D, .list [.none, .none, .none, .tuple []], rfl, .lst (sl hD) hws, by decide, by decide, by decide, by decide +kernel, ?_⟩
        refine cons_ ?_
        refine run_lst (K := K) (ds := [.none, .none, .none, .tuple []]) (mk_cons mk_non (mk_cons mk_non (mk_cons mk_non (mk_cons (mk_tup mk_nil) mk_nil)))) fun R H6 vs6 n6 s6 l6 d6 => ?_
        refine ⟨.ref R, .list [.none, .none, .none, .tuple []], rfl, .lst (sl l6) d6, by decide, by decide, by decide, by decide +kernel, ?_⟩
        refine ⟨rfl, ?_⟩
        rw [decide_eq_true rfl]
        exact q _ ((s03.trans s4).trans (sm.trans s6))
end
end T06
namespace T06
open PySem PySem.Spec PyProof.Rows L2 HX HB HG HU HH HD HS HV HQ HK TL
/-! ### what is due -/
theorem prog_of {d : PyData} {r : Option (List Int)} (h : firstD [] [] [] 30 d = r) (h2 : r = none → cntD 30 (rowsD d) ≤ 60) : progD 30 [] [] [] d = r := by
  have e : progD 30 [] [] [] d = match firstD [] [] [] 30 d with
    | some pl => some pl
    | none => if (placesD 30 (rowsD d) []).length ≤ 60 then none else some [] := rfl
  rw [e, h]
  cases r with
  | some pl => rfl
  | none =>
    dsimp only
    rw [places_len, if_pos (h2 rfl)]
theorem first_tup (rows : List PyData) : firstD [] [] [] 30 (.tuple rows) = wrongD [] [] [] 30 rows [] [] 0 := rfl
/-! within -/
theorem within_first {nm : Str} (hn : isNameL nm = true) (h5 : nm.length ≤ 5) {ws : List Nat} {m : Nat} (hw : ws.length = m) (hm : m = 9 ∨ m = 10) :
    firstD [] [] [] 30 (.tuple [nestD nm (tellD 5) ws]) = if m = 9 then none else some (0 :: placeW ws) := by
  rw [first_tup, wrong_nest hn h5 (tell_leaf [] [] [] 5) ws 30 [] [] 0 (fun _ _ h => by cases h) (by decide) (by omega) (by simp only [List.length_nil]; omega)]
  simp only [List.length_nil, List.nil_append]
  rcases hm with rfl | rfl
  · rw [if_pos (by omega), if_pos rfl]
  · rw [if_neg (by omega), if_neg (by decide)]
theorem placeW_short : ∀ ws : List Nat, ∀ i ∈ placeW ws, (0 : Int) ≤ i ∧ i < 100
  | [], _, h => by cases h
  | w :: r, i, h => by
    rcases List.mem_cons.mp h with rfl | h
    · unfold whichW
      split <;> omega
    · rcases List.mem_cons.mp h with rfl | h
      · omega
      · exact placeW_short r i h
theorem within_short {ws : List Nat} (h : ws.length ≤ 10) (m : Nat) : Short (if m = 9 then none else some (0 :: placeW ws)) := by
  split
  · exact short_none
  · intro pl e
    cases e
    refine ⟨by rw [List.length_cons, placeW_len]; omega, fun i hi => ?_⟩
    rcases List.mem_cons.mp hi with rfl | hi
    · omega
    · exact placeW_short ws i hi
theorem within_good {nm : Str} (hn : isNameL nm = true) (h5 : nm.length ≤ 5) {ws : List Nat} (h : ws.length ≤ 10) : Good (.tuple [nestD nm (tellD 5) ws]) 30 := by
  have g0 : Good (tellD 5) 1 := Good.tup (fun x hx => by
    rcases List.mem_cons.mp hx with rfl | hx
    · exact Good.str (str_lit (by decide +kernel)) _
    · rw [List.mem_singleton.mp hx]; exact Good.int _ _) (by decide)
  have := good_nest (Low.of hn) (by omega) g0 ws (by omega)
  exact (Good.tup (n := 1 + 2 * ws.length) (fun x hx => by rw [List.mem_singleton.mp hx]; exact this) (by show 1 ≤ 10000; decide)).mono (by omega)
/-! oftens -/
def oftsD (d : PyData) : List Nat → PyData
  | [] => d
  | n :: r => .tuple [.str "often", .int (n : Int), .tuple [oftsD d r]]
theorem wrong_oft {cs ls hs : List Str} {d : PyData} (L : Leaf cs ls hs d) : ∀ (ns : List Nat) (n : Nat) (place : List Int) (ps : List (Str × Str)) (oft : Int), oft ≤ 3 → oft + ns.length ≤ 4 → ns.length < n → place.length + 1 + 2 * ns.length ≤ 19 → (∀ k ∈ ns, k < 4) →
    wrongD cs ls hs n [oftsD d ns] place ps oft = if oft + ns.length ≤ 3 then none else some (place ++ List.replicate (2 * ns.length - 1) 0)
  | [], n, place, ps, oft, h1, h2, h3, h4, h5 => by
    obtain ⟨m, rfl⟩ : ∃ m, n = m + 1 := ⟨n - 1, by simp only [List.length_nil] at h3; omega⟩
    rw [wrong_one, if_pos (by simp only [List.length_nil]; omega)]
    refine rowF_none' (by simp only [List.length_nil] at h4; omega) (L.row ps) (by show oft + oftD d ≤ 3; rw [L.oft]; omega) fun j b e => ?_
    have e : (bodiesD d)[j]? = some b := e
    rw [L.bods] at e
    simp at e
  | k :: r, n, place, ps, oft, h1, h2, h3, h4, h5 => by
    obtain ⟨m, rfl⟩ : ∃ m, n = m + 1 := ⟨n - 1, by simp only [List.length_cons] at h3; omega⟩
    simp only [List.length_cons] at h2 h3 h4 ⊢
    have hk := h5 k (List.mem_cons_self ..)
    have row : isRowD cs ls hs ps (oftsD d (k :: r)) = true := row3 (k1 := "times") (by decide +kernel) (by
      show inRange (.int (k : Int)) (0, 3) = true
      show (decide ((0 : Int) ≤ (k : Int)) && decide ((k : Int) ≤ 3)) = true
      rw [decide_eq_true (by omega), decide_eq_true (by omega)]
      rfl) part_tup
    have eo : oftD (oftsD d (k :: r)) = 1 := rfl
    have eb : bodiesD (oftsD d (k :: r)) = [.tuple [oftsD d r]] := rfl
    have ea : arD (oftsD d (k :: r)) ps = ps := rfl
    rw [wrong_one]
    unfold rowF
    rw [row, eo, eb, ea, if_neg (by simp; omega)]
    by_cases h : 3 < oft + 1
    · rw [if_pos h, if_neg (by omega)]
      have : r.length = 0 := by omega
      rw [this]
      rfl
    · rw [if_neg h]
      simp only [firstSome, rowsD]
      rw [wrong_oft L r m _ ps (oft + 1) (by omega) (by omega) (by omega) (by simp; omega) (fun j hj => h5 j (List.mem_cons_of_mem _ hj))]
      by_cases h2 : oft + 1 + (r.length : Int) ≤ 3
      · rw [if_pos h2, if_pos (by omega)]
      · rw [if_neg h2, if_neg (by omega)]
        have e2 : 2 * (r.length + 1) - 1 = (2 * r.length - 1) + 1 + 1 := by omega
        rw [e2, List.replicate_succ, List.replicate_succ]
        simp
theorem cnt_oft {cs ls hs : List Str} {d : PyData} (L : Leaf cs ls hs d) : ∀ (ns : List Nat) (n : Nat), ns.length < n → cntD n [oftsD d ns] = ns.length + 1
  | [], n, h => by
    obtain ⟨m, rfl⟩ : ∃ m, n = m + 1 := ⟨n - 1, by simp only [List.length_nil] at h; omega⟩
    simp only [cntD, oftsD, L.bods, List.map_cons, List.map_nil, List.sum_cons, List.sum_nil, List.length_nil]
    rfl
  | k :: r, n, h => by
    obtain ⟨m, rfl⟩ : ∃ m, n = m + 1 := ⟨n - 1, by simp only [List.length_cons] at h; omega⟩
    simp only [List.length_cons] at h ⊢
    have eb : bodiesD (oftsD d (k :: r)) = [.tuple [oftsD d r]] := rfl
    simp only [cntD, eb, List.map_cons, List.map_nil, List.sum_cons, List.sum_nil, rowsD]
    rw [cnt_oft L r m (by omega)]
    omega
theorem good_oft {d : PyData} {n : Nat} (g : Good d n) : ∀ ns : List Nat, Good (oftsD d ns) (n + 2 * ns.length)
  | [] => g
  | k :: r => by
    have ih := good_oft g r
    have b : Good (.tuple [oftsD d r]) (n + 2 * r.length + 1) := Good.tup (fun x hx => by rw [List.mem_singleton.mp hx]; exact ih) (by show 1 ≤ 10000; decide)
    have t : Good (.tuple [.str "often", .int (k : Int), .tuple [oftsD d r]]) (n + 2 * r.length + 1 + 1) := Good.tup (fun x hx => by
      rcases List.mem_cons.mp hx with rfl | hx
      · exact Good.str (str_lit (by decide +kernel)) _
      · rcases List.mem_cons.mp hx with rfl | hx
        · exact Good.int _ _
        · rw [List.mem_singleton.mp hx]; exact b) (by show 3 ≤ 10000; decide)
    exact t.mono (by rw [List.length_cons]; omega)
theorem put_leaf {cs ls hs : List Str} {z : Str} (h : isNameL z = true) : Leaf cs ls hs (.tuple [.str "put", .str z, .int 1]) := ⟨fun ps => row3 (k1 := "name") (k2 := "calc") (by decide +kernel) (part_name h) rfl, rfl, rfl⟩
/-! one row, two rows, with empty bodies -/
structure Flat (d : PyData) : Prop where
  oft : oftD d ≤ 1
  bods : ∀ b ∈ bodiesD d, b = .tuple []
theorem flat_row {n : Nat} {d : PyData} (F : Flat d) (i : Nat) : rowF [] [] [] n [] [] 0 i d = if isRowD [] [] [] [] d = true then none else some [(i : Int)] := by
  by_cases h : isRowD [] [] [] [] d = true
  · rw [if_pos h]
    exact rowF_none' (by decide) h (by have := F.oft; omega) fun j b e => by
      rw [F.bods b (List.mem_of_getElem? e)]
      exact wrong_nil ..
  · rw [if_neg h]
    unfold rowF
    rw [if_pos (.inr (Bool.eq_false_iff.mpr h))]
    rfl
theorem one_first {d : PyData} (F : Flat d) : firstD [] [] [] 30 (.tuple [d]) = if isRowD [] [] [] [] d = true then none else some [0] := by
  rw [first_tup, wrong_one, flat_row F 0]
  rfl
theorem two_first {d : PyData} (F : Flat d) : firstD [] [] [] 30 (.tuple [tellD 1, d]) = if isRowD [] [] [] [] d = true then none else some [1] := by
  have Ft : Flat (tellD 1) := ⟨by show (0 : Int) ≤ 1; decide, fun b hb => by rw [(tell_leaf [] [] [] 1).bods] at hb; cases hb⟩
  rw [first_tup, wrong_succ]
  simp only [firstSome]
  rw [flat_row Ft 0, (tell_leaf [] [] [] 1).row [], if_pos rfl]
  dsimp only
  rw [flat_row F 1]
  cases isRowD [] [] [] [] d <;> rfl
theorem cnt_flat {d : PyData} (F : Flat d) (n : Nat) : cntD (n + 1) [d] = 1 := by
  simp only [cntD, List.map_cons, List.map_nil, List.sum_cons, List.sum_nil]
  have : ∀ rr : List PyData, (∀ b ∈ rr, b = .tuple []) → (rr.map fun b => cntD n (rowsD b)).sum = 0 := fun rr => by
    induction rr with
    | nil => intro _; rfl
    | cons b rr ih =>
      intro hb
      have e := hb b (List.mem_cons_self ..)
      subst e
      simp only [List.map_cons, List.sum_cons, rowsD, cnt_nil, Nat.zero_add]
      exact ih fun b hb' => hb b (List.mem_cons_of_mem _ hb')
  rw [this _ F.bods]
  rfl
/-! spread -/
theorem spread_first {qs : List (Nat × Nat)} : firstD [] [] [] 30 (.tuple (qs.map sprow)) = none := sp_right (n := 28) (by decide)
theorem good_tells (n : Nat) (h : n ≤ 1000) : Good (.tuple (tellsL n)) 2 := Good.tup (fun x hx => by
  obtain ⟨k, hk, rfl⟩ := List.mem_map.mp hx
  exact Good.tup (fun y hy => by
    rcases List.mem_cons.mp hy with rfl | hy
    · exact Good.str (str_lit (by decide +kernel)) _
    · rw [List.mem_singleton.mp hy]; exact Good.int _ _) (by show 2 ≤ 10000; decide)) (by unfold tellsL; rw [List.length_map, List.length_range]; omega)
theorem good_sp {qs : List (Nat × Nat)} (h : totQ qs ≤ 1000) : Good (.tuple (qs.map sprow)) 30 := by
  have l := totQ_len qs
  refine (Good.tup (n := 3) (fun x hx => ?_) (by rw [List.length_map]; omega)).mono (by decide)
  obtain ⟨q, hq, rfl⟩ := List.mem_map.mp hx
  have hq2 : q.2 ≤ 1000 := by
    have : ∀ qs : List (Nat × Nat), ∀ q ∈ qs, q.2 ≤ totQ qs := fun qs => by
      induction qs with
      | nil => intro q hq; cases hq
      | cons p qs ih =>
        intro q hq
        show q.2 ≤ 1 + p.2 + totQ qs
        rcases List.mem_cons.mp hq with rfl | hq
        · omega
        · have := ih q hq; omega
    have := this qs q hq
    omega
  have b := good_tells q.2 hq2
  have e : Good (.tuple []) 2 := Good.tup (fun x hx => by cases hx) (by decide)
  have s : ∀ z : Str, (decide (z.length ≤ 20) && z.cps.toList.all isLow) = true → Good (.str z) 2 := fun z h => Good.str (str_lit h) _
  have three : ∀ {x y z : PyData}, Good x 2 → Good y 2 → Good z 2 → Good (.tuple [x, y, z]) 3 := fun hx hy hz => Good.tup (fun u hu => by
    rcases List.mem_cons.mp hu with rfl | hu
    · exact hx
    · rcases List.mem_cons.mp hu with rfl | hu
      · exact hy
      · rw [List.mem_singleton.mp hu]; exact hz) (by show 3 ≤ 10000; decide)
  unfold sprow
  split
  · exact Good.tup (fun u hu => by
      rcases List.mem_cons.mp hu with rfl | hu
      · exact s _ (by decide +kernel)
      · rw [List.mem_singleton.mp hu]; exact b) (by show 2 ≤ 10000; decide)
  split
  · exact three (s _ (by decide +kernel)) e b
  · exact three (s _ (by decide +kernel)) (Good.int _ _) b
end T06
namespace T06
open PySem PySem.Spec PyProof.Rows L2 HX HB HG HU HH HD HS HV HQ HK TL
section
variable {P : Program} {w : World} {K : PySem.W.Frag} {mg : Str → Option Value} {base : Heap}
theorem sz_of {d : PyData} (h2 : cntD 30 (rowsD d) ≤ 60) : (placesD 30 (rowsD d) []).length ≤ sizeLine := by rw [places_len]; exact Nat.le_trans h2 (by decide)
theorem cut5 {z : Str} (h : isNameL z = true) : isNameL (cutS z none (some 5)) = true ∧ (cutS z none (some 5)).length ≤ 5 := by
  have L := low_cut (Low.of h) none (some 5)
  have hz : 1 ≤ z.length := by unfold isNameL at h; simp only [Bool.and_eq_true, decide_eq_true_eq] at h; omega
  have el : (cutS z none (some 5)).length = min 5 z.length := by
    have e : HT.sIx z.length z.length (some 5) = min 5 z.length := HT.sIx_nat z.length z.length 5
    show ((z.cps.toList.drop (HT.sIx z.length 0 none)).take (HT.sIx z.length z.length (some 5) - HT.sIx z.length 0 none)).toArray.size = _
    rw [e, HT.sIx_none, List.drop_zero, Nat.sub_zero, List.size_toArray, List.length_take]
    have ez : z.length = z.cps.toList.length := by simp [Str.length]
    omega
  exact ⟨L.name (by omega) (by omega), by omega⟩
/-- the three rows with a number -/
def numRow (k z : Str) (n : Int) : PyData := if k = "rest" then .tuple [.str k, .int n] else if k = "within" then .tuple [.str k, .int n, .str z, .tuple []] else .tuple [.str k, .int n, .tuple []]
structure NumOk (k z : Str) (n low high : Int) : Prop where
  flat : Flat (numRow k z n)
  row : isRowD [] [] [] [] (numRow k z n) = decide (low ≤ n ∧ n ≤ high)
  good : Good (numRow k z n) 2
theorem num_ok {k z : Str} {low high : Int} (hz : isNameL z = true) (n : Int) (h : (k = "rest" ∧ low = 0 ∧ high = 9) ∨ (k = "within" ∧ low = 1 ∧ high = 9) ∨ (k = "often" ∧ low = 0 ∧ high = 3)) : NumOk k z n low high := by
  have s : ∀ y : Str, (decide (y.length ≤ 20) && y.cps.toList.all isLow) = true → Good (.str y) 1 := fun y h => Good.str (str_lit h) _
  have e : Good (.tuple []) 1 := Good.tup (n := 0) (fun x hx => by cases hx) (by decide)
  have ir : ∀ l u : Int, inRange (.int n) (l, u) = decide (l ≤ n ∧ n ≤ u) := fun l u => by
    show (decide (l ≤ n) && decide (n ≤ u)) = _
    rw [← Bool.decide_and]
  rcases h with ⟨rfl, rfl, rfl⟩ | ⟨rfl, rfl, rfl⟩ | ⟨rfl, rfl, rfl⟩
  · refine ⟨⟨by show (0 : Int) ≤ 1; decide, fun b hb => by cases hb⟩, ?_, Good.tup (fun x hx => ?_) (by show 2 ≤ 10000; decide)⟩
    · show (true && (inRange (.int n) (0, 9) && true)) = _
      rw [ir, Bool.true_and, Bool.and_true]
    · rcases List.mem_cons.mp hx with rfl | hx
      · exact s _ (by decide +kernel)
      · rw [List.mem_singleton.mp hx]; exact Good.int _ _
  · refine ⟨⟨by show (0 : Int) ≤ 1; decide, fun b hb => List.mem_singleton.mp hb⟩, ?_, Good.tup (fun x hx => ?_) (by show 4 ≤ 10000; decide)⟩
    · show (true && (inRange (.int n) (1, 9) && (isPartD [] [] [] [] "scope" (.str z) && (true && true)))) = _
      rw [ir, part_sc hz (by simp), Bool.true_and, Bool.and_self, Bool.and_self, Bool.and_true]
    · rcases List.mem_cons.mp hx with rfl | hx
      · exact s _ (by decide +kernel)
      · rcases List.mem_cons.mp hx with rfl | hx
        · exact Good.int _ _
        · rcases List.mem_cons.mp hx with rfl | hx
          · exact Good.str (Low.of hz) _
          · rw [List.mem_singleton.mp hx]; exact e
  · refine ⟨⟨by show (1 : Int) ≤ 1; decide, fun b hb => List.mem_singleton.mp hb⟩, ?_, Good.tup (fun x hx => ?_) (by show 3 ≤ 10000; decide)⟩
    · show (true && (inRange (.int n) (0, 3) && (true && true))) = _
      rw [ir, Bool.true_and, Bool.and_self, Bool.and_true]
    · rcases List.mem_cons.mp hx with rfl | hx
      · exact s _ (by decide +kernel)
      · rcases List.mem_cons.mp hx with rfl | hx
        · exact Good.int _ _
        · rw [List.mem_singleton.mp hx]; exact e
theorem good_tell (k : Nat) : Good (tellD k) 1 := Good.tup (fun x hx => by
  rcases List.mem_cons.mp hx with rfl | hx
  · exact Good.str (str_lit (by decide +kernel)) _
  · rw [List.mem_singleton.mp hx]; exact Good.int _ _) (by show 2 ≤ 10000; decide)
theorem short_one {b : Bool} {i : Int} (h : 0 ≤ i ∧ i < 100) : Short (if b = true then none else some [i]) := by
  split
  · exact short_none
  · intro pl e
    cases e
    exact ⟨by show 1 ≤ 100; decide, fun j hj => by rw [List.mem_singleton.mp hj]; exact h⟩
/-! names of six and seven letters -/
def longN (z : Str) : Str := cutS (z ++ "abcdef") none (some 7)
theorem cut_upto (z : Str) (n : Nat) : (cutS z none (some (n : Int))).cps.toList = z.cps.toList.take n := by
  have e : HT.sIx z.length z.length (some (n : Int)) = min n z.length := HT.sIx_nat z.length z.length n
  show ((z.cps.toList.drop (HT.sIx z.length 0 none)).take (HT.sIx z.length z.length (some (n : Int)) - HT.sIx z.length 0 none)) = _
  rw [e, HT.sIx_none, List.drop_zero, Nat.sub_zero, List.take_eq_take_iff]
  have ez : z.length = z.cps.toList.length := by simp [Str.length]
  omega
theorem len_tl (z : Str) : z.length = z.cps.toList.length := by simp [Str.length]
theorem long_ok {z : Str} (h : isNameL z = true) : Low (longN z) ∧ (longN z).length = 7 ∧ Low (cutS (longN z) none (some 6)) ∧ (cutS (longN z) none (some 6)).length = 6 := by
  have hz : 1 ≤ z.length ∧ z.length ≤ 6 := by unfold isNameL at h; simp only [Bool.and_eq_true, decide_eq_true_eq] at h; omega
  have la : Low ("abcdef" : Str) := str_lit (by decide +kernel)
  have l6 : ("abcdef" : Str).length = 6 := by decide +kernel
  have L := low_cut (low_app (Low.of h) la (by rw [l6]; omega)) none (some 7)
  have e7 : (longN z).length = 7 := by
    unfold longN
    rw [len_tl, show (cutS (z ++ "abcdef") none (some 7)).cps.toList = _ from cut_upto _ 7, List.length_take, ← len_tl, strLen_append, l6]
    omega
  refine ⟨L, e7, low_cut L _ _, ?_⟩
  rw [len_tl, show (cutS (longN z) none (some 6)).cps.toList = _ from cut_upto _ 6, List.length_take, ← len_tl, e7]
  rfl
structure OneOk (x : PyData) (y : Str) : Prop where
  flat : Flat x
  row : isRowD [] [] [] [] x = isNameL y
  good : Good x 3
theorem one_facts {row : PyData} {y : Str} (O : OneOk row y) (hy : isNameL y = decide (y.length < 7)) : Good (.tuple [row]) 30 ∧ firstD [] [] [] 30 (.tuple [row]) = (if decide (y.length < 7) = true then none else some [0]) ∧ cntD 30 (rowsD (.tuple [row])) ≤ 60 := by
  refine ⟨(Good.tup (n := 3) (fun x hx => by rw [List.mem_singleton.mp hx]; exact O.good) (by show 1 ≤ 10000; decide)).mono (by decide), by rw [one_first O.flat, O.row, hy], ?_⟩
  show cntD 30 [row] ≤ 60
  rw [cnt_flat O.flat 29]
  decide
theorem one_oks {y : Str} (hy : Low y) : OneOk (.tuple [.str "put", .str y, .int 1]) y ∧ OneOk (.tuple [.str "fail", .str y]) y ∧ OneOk (.tuple [.str "nest", .str y, .tuple []]) y ∧ OneOk (.tuple [.str "tell", .tuple [.str "sum", .int 1, .str y]]) y := by
  have s : ∀ (z : Str) (n : Nat), (decide (z.length ≤ 20) && z.cps.toList.all isLow) = true → Good (.str z) n := fun z n h => Good.str (str_lit h) _
  have e : Good (.tuple []) 2 := (Good.tup (n := 0) (fun x hx => by cases hx) (by decide)).mono (by decide)
  have g3 : ∀ {n : Nat} {x u t : PyData}, Good x n → Good u n → Good t n → Good (.tuple [x, u, t]) (n + 1) := fun h1 h2 h3 => Good.tup (fun w hw => by
    rcases List.mem_cons.mp hw with rfl | hw
    · exact h1
    · rcases List.mem_cons.mp hw with rfl | hw
      · exact h2
      · rw [List.mem_singleton.mp hw]; exact h3) (by show 3 ≤ 10000; decide)
  have g2 : ∀ {n : Nat} {x u : PyData}, Good x n → Good u n → Good (.tuple [x, u]) (n + 1) := fun h1 h2 => Good.tup (fun w hw => by
    rcases List.mem_cons.mp hw with rfl | hw
    · exact h1
    · rw [List.mem_singleton.mp hw]; exact h2) (by show 2 ≤ 10000; decide)
  have nm1' : ∀ b : Bool, (b && true) = b := Bool.and_true
  refine ⟨⟨⟨by show (0 : Int) ≤ 1; decide, fun b hb => by cases hb⟩, ?_, g3 (s _ _ (by decide +kernel)) (Good.str hy _) (Good.int _ _)⟩, ⟨⟨by show (0 : Int) ≤ 1; decide, fun b hb => by cases hb⟩, ?_, g2 (s _ _ (by decide +kernel)) (Good.str hy _)⟩,
    ⟨⟨by show (0 : Int) ≤ 1; decide, fun b hb => List.mem_singleton.mp hb⟩, ?_, g3 (s _ _ (by decide +kernel)) (Good.str hy _) e⟩, ⟨⟨by show (0 : Int) ≤ 1; decide, fun b hb => by cases hb⟩, ?_, g2 (s _ _ (by decide +kernel)) (g3 (s _ _ (by decide +kernel)) (Good.int _ _) (Good.str hy _))⟩⟩
  · show (true && ((isNameL y && true) && (true && true))) = _
    simp
  · show (true && ((isNameL y && true) && true)) = _
    simp
  · cases h : isNameL y with
    | true =>
      show (true && (isPartD [] [] [] [] "scope" (.str y) && (true && true))) = _
      rw [part_sc h (by simp)]
      rfl
    | false =>
      show (true && ((isNameL y && _) && (true && true))) = _
      rw [h]
      rfl
  · show (true && ((true && (true && isNameL y)) && true)) = _
    simp
def spLaw (K : PySem.W.Frag) : Sp := fun vs H Q _ => ∃ (a : Addr) (ns : List Int), vs = [.ref a] ∧ SqL K H a (ns.map V.int) ∧ ns.length ≤ 63 ∧ ∀ H', Q (.bl true) H'
theorem ok_law {f : Addr} {fd : FuncData} (F : Fun K "law" "law" s_law f fd) (T : Tp K w mg) : FnG P w K mg base CX0 71 f fd ["_law_script"] (spLaw K) := by
  refine okGn F sc_law (fun vs H Q E h => ?_) (fun cdv A outer s H vs Q E sh hr h => ?_)
  · obtain ⟨a, ns, rfl, _⟩ := h
    rfl
  · obtain ⟨a, ns, rfl, hS, hl, q⟩ := h
    have hu := hu_of hr
    obtain ⟨dsF, hvF, hbF⟩ := T.D_first.binds0 (ps := ["body", "cells", "locks", "channels"]) 1 (List.cons_ne_nil _ _) rfl
      (fun D doc pm an cdv ct us ks h1 h2 => match us, ks, h1, h2 with | [_], [_, _, _], _, _ => ⟨_, _, _, _, _, _, rfl, rfl, _, _, _, _, _, _, rfl, rfl, _, _, _, _, _, _, rfl, rfl, rfl⟩)
    refine ⟨_, (pss_cons (ps_set (i := 1) sc_law.nd rfl (.inl rfl) (pcall T.D_begun (ok_begun T) (hr.mono (by omega)) (by rfl) (pa_cons (pv 0) pa_nil)))
  (pss_cons (ps_set (i := 2) sc_law.nd rfl (.inl rfl) (pcall T.D_name (ok_name T) (hr.mono (by omega)) (by rfl) (pa_cons (pv 1) pa_nil)))
  (pss_cons (ps_if (PW.pt (pw_or (pt_cmpR (op_neD hr.units) (pe_tup (pa_cons (pe_gi (by rfl) T.c_LIMIT) (pa_cons (pe_gi (by rfl) T.c_MOST) pa_nil))) (pe_tup (pa_cons pe_int (pa_cons pe_int pa_nil))) (nomark _)) (pw_or1 (pt_not (pt_val (gcall T.D_heads (ok_heads T) sh (hr.mono (by omega)) (by rfl) (pa_cons (pv 1) (pa_cons (pv 2) pa_nil))))))))
  (pss_one (ps_ret pe_bl))
  pss_nil)
  (pss_cons (ps_for PassesOwn.never rfl (pi_list (pe_lst (pa_cons pe_int (pa_cons pe_int (pa_cons pe_int pa_nil))))) (pg_name (i := 3) sc_law.nd rfl (.inl rfl))
  (pss_cons (ps_asg (pcall T.D_within (ok_within T) (hr.mono (by omega)) (by rfl) (pa_cons (pv 1) (pa_cons (pe_tup (pa_cons pe_str (pa_cons pe_int pa_nil))) (pa_cons (pv 3) (pa_cons (pe_slice sl_str (pv 2) po_none (po_some pe_int)) pa_nil))))) (pg_tup rfl (pgs_cons (pg_name (i := 4) sc_law.nd rfl (.inl rfl)) (pgs_cons (pg_name (i := 5) sc_law.nd rfl (.inl rfl)) pgs_nil))))
  (pss_one (ps_if (pt_not (pt_val (gcall T.D_right (ok_right T) sh (hr.mono (by omega)) (by rfl) (pa_cons (pe_tup (pa_cons (pv 4) pa_nil)) (pa_cons (pe_ifExp (pt_cmpR op_eq (pv 3) pe_int (nomark _)) pe_non (pv 5)) pa_nil)))))
  (pss_one (ps_ret pe_bl))
  pss_nil))))
  (pss_cons (ps_for PassesOwn.never rfl (pi_list (pe_lst (pa_cons pe_int (pa_cons pe_int pa_nil)))) (pg_name (i := 3) sc_law.nd rfl (.inl rfl))
  (pss_cons (ps_par (i := 4) (j := 5) rfl sc_law.nd rfl rfl (by decide) rfl rfl (pa_cons (pe_tup (pa_cons pe_str (pa_cons (pv 2) (pa_cons pe_int pa_nil)))) (pa_cons (pe_op op_repT (pe_tup (pa_cons pe_int pa_nil)) (pe_op op_sub (pe_op op_mul pe_int (pv 3)) pe_int)) pa_nil)) (by rfl))
  (pss_cons (ps_for PassesOwn.never rfl (pi_range1 (by rfl) T.range (pa_cons (pv 3) pa_nil)) (pg_name (i := 6) sc_law.nd rfl (.inl rfl))
  (pss_one (ps_set (i := 4) sc_law.nd rfl (.inl rfl) (pe_tup (pa_cons pe_str (pa_cons (pcall T.D_next (ok_next T) (hr.mono (by omega)) (by rfl) (pa_cons (pv 1) (pa_cons pe_int pa_nil))) (pa_cons (pe_tup (pa_cons (pv 4) pa_nil)) pa_nil)))))))
  (pss_one (ps_if (pt_not (pt_val (gcall T.D_right (ok_right T) sh (hr.mono (by omega)) (by rfl) (pa_cons (pe_tup (pa_cons (pv 4) pa_nil)) (pa_cons (pe_ifExp (pt_cmpR op_eq (pv 3) pe_int (nomark _)) pe_non (pv 5)) pa_nil)))))
  (pss_one (ps_ret pe_bl))
  pss_nil)))))
  (pss_cons (ps_for PassesOwn.never rfl (pi_list (pe_lst (pa_cons (pe_tup (pa_cons pe_str (pa_cons pe_int (pa_cons pe_int pa_nil)))) (pa_cons (pe_tup (pa_cons pe_str (pa_cons pe_int (pa_cons pe_int pa_nil)))) (pa_cons (pe_tup (pa_cons pe_str (pa_cons pe_int (pa_cons pe_int pa_nil)))) pa_nil))))) (pg_tup rfl (pgs_cons (pg_name (i := 7) sc_law.nd rfl (.inl rfl)) (pgs_cons (pg_name (i := 8) sc_law.nd rfl (.inl rfl)) (pgs_cons (pg_name (i := 9) sc_law.nd rfl (.inl rfl)) pgs_nil))))
  (pss_one (ps_for PassesOwn.never rfl (pi_list (pe_lst (pa_cons (pe_op op_sub (pv 8) pe_int) (pa_cons (pv 8) (pa_cons (pv 9) (pa_cons (pe_op op_add (pv 9) pe_int) pa_nil)))))) (pg_name (i := 10) sc_law.nd rfl (.inl rfl))
  (pss_cons (ps_set (i := 4) sc_law.nd rfl (.inl rfl) (pe_dget hu (pe_disp (pps_cons pe_str (pe_tup (pa_cons (pv 7) (pa_cons (pv 10) pa_nil))) (pps_cons pe_str (pe_tup (pa_cons (pv 7) (pa_cons (pv 10) (pa_cons (pv 2) (pa_cons (pe_tup pa_nil) pa_nil))))) (pps_cons pe_str (pe_tup (pa_cons (pv 7) (pa_cons (pv 10) (pa_cons (pe_tup pa_nil) pa_nil)))) pps_nil))) (by rfl) (by rfl) (fun z => by cases z) (by decide)) (pv 7) (fun _ _ => rfl)))
  (pss_one (ps_if (pt_not (pt_val (gcall T.D_right (ok_right T) sh (hr.mono (by omega)) (by rfl) (pa_cons (pe_tup (pa_cons (pe_tup (pa_cons pe_str (pa_cons pe_int pa_nil))) (pa_cons (pv 4) pa_nil))) (pa_cons (pe_ifExp (pt_chain op_le op_le (pv 8) (pv 10) (pv 9)) pe_non (pe_tup (pa_cons pe_int pa_nil))) pa_nil)))))
  (pss_one (ps_ret pe_bl))
  pss_nil))))))
  (pss_cons (ps_set (i := 11) sc_law.nd rfl (.inl rfl) (pe_slice sl_str (pe_op op_add_str (pv 2) pe_str) po_none (po_some pe_int)))
  (pss_cons (ps_for PassesOwn.never rfl (pi_list (pe_lst (pa_cons (pe_slice sl_str (pv 11) po_none (po_some pe_int)) (pa_cons (pv 11) pa_nil)))) (pg_name (i := 12) sc_law.nd rfl (.inl rfl))
  (Evl.pss_cut (ps_set (i := 13) sc_law.nd rfl (.inl rfl) (pe_ifExp (pt_cmpR op_lt (pe_callB call_len_str (by rfl) T.len PySem.boot_len (pa_cons (pv 12) pa_nil)) pe_int (nomark _)) pe_non (pe_tup (pa_cons pe_int pa_nil))))
  (pss_cons (ps_if (PW.pt (pw_or (pt_not (pt_val (gcall T.D_right (ok_right T) sh (hr.mono (by omega)) (by rfl) (pa_cons (pe_tup (pa_cons (pe_tup (pa_cons pe_str (pa_cons (pv 12) (pa_cons pe_int pa_nil)))) pa_nil)) (pa_cons (pv 13) pa_nil))))) (pw_or1 (pt_not (pt_val (gcall T.D_right (ok_right T) sh (hr.mono (by omega)) (by rfl) (pa_cons (pe_tup (pa_cons (pe_tup (pa_cons pe_str (pa_cons (pv 12) pa_nil))) pa_nil)) (pa_cons (pv 13) pa_nil))))))))
  (pss_one (ps_ret pe_bl))
  pss_nil)
  (pss_one (ps_if (PW.pt (pw_or (pt_not (pt_val (gcall T.D_right (ok_right T) sh (hr.mono (by omega)) (by rfl) (pa_cons (pe_tup (pa_cons (pe_tup (pa_cons pe_str (pa_cons (pv 12) (pa_cons (pe_tup pa_nil) pa_nil)))) pa_nil)) (pa_cons (pv 13) pa_nil))))) (pw_or1 (pt_not (pt_val (gcall T.D_right (ok_right T) sh (hr.mono (by omega)) (by rfl) (pa_cons (pe_tup (pa_cons (pe_tup (pa_cons pe_str (pa_cons (pe_tup (pa_cons pe_str (pa_cons pe_int (pa_cons (pv 12) pa_nil)))) pa_nil))) pa_nil)) (pa_cons (pv 13) pa_nil))))))))
  (pss_one (ps_ret pe_bl))
  pss_nil)))))
  (pss_cons (ps_set (i := 14) sc_law.nd rfl (.inl rfl) (pcall T.D_spread (ok_spread T) (hr.mono (by omega)) (by rfl) (pa_cons (pv 1) (pa_cons pe_int pa_nil))))
  (pss_cons (ps_if (PW.pt (pw_or (pt_cmpR op_notN (pcall T.D_refused (ok_refused T) (hr.mono (by omega)) (by rfl) (pa_cons (pv 14) (pa_cons pe_non (pa_cons pe_non (pa_cons pe_non pa_nil))))) pe_non (nomark _)) (pw_or1 (pt_cmpR op_notN (pe_call (ok_first T 30 (by decide)) (hr.mono (by omega)) (by rfl) T.g_first T.D_first.kp hbF hvF pass0 (pa_cons (pe_op HT2.op_catA (pv 14) (pv 14)) pa_nil)) pe_non (nomark _)))))
  (pss_one (ps_ret pe_bl))
  pss_nil)
  (pss_one (ps_ret (pe_cmpR op_eq (pe_callB (HK.call_reprA sh hr.units) (by rfl) T.repr (by decide +kernel) (pa_cons (pcall T.D_refused (ok_refused T) (hr.mono (by omega)) (by rfl) (pa_cons (pcall T.D_spread (ok_spread T) (hr.mono (by omega)) (by rfl) (pa_cons (pv 1) (pa_cons pe_int pa_nil))) (pa_cons pe_non (pa_cons pe_non (pa_cons pe_non pa_nil))))) pa_nil)) pe_str (nomark _)))))))))))))), ?_⟩
    refine ⟨_, rfl, a, ns, rfl, hS, hl, fun d g c H1 s1 nd ng D1 => ?_⟩
    refine ⟨_, rfl, d, g, c, rfl, D1, fun z H2 hz D2 u2 => ?_⟩
    -- LIMIT, MOST
    refine ⟨by show 2 ≤ sizeLine; decide, fun pa npa => ?_⟩
    obtain ⟨sa, da⟩ := new_tup (K := K) (xs := [.int 400, .int 3000]) npa (.cons (.int 400) (.cons (.int 3000) .nil))
    generalize upd _ _ _ = H3 at sa da ⊢
    refine ⟨by show 2 ≤ sizeLine; decide, fun pb npb => ?_⟩
    obtain ⟨sb, db⟩ := new_tup (K := K) (xs := [.int 400, .int 3000]) npb (.cons (.int 400) (.cons (.int 3000) .nil))
    generalize upd _ _ _ = H4 at sb db ⊢
    have da := sb.dp da
    refine ⟨_, _, da, db, by decide, rfl, _, rfl, ite0 (by decide) ?_⟩
    have D4 := D2.same (sa.trans sb)
    refine ⟨_, rfl, _, rfl, .ref d, z, rfl, hz, fun H5 s5 => ⟨_, rfl, ite0 rfl ?_⟩⟩
    have D5 := D4.same s5
    have z6 : 1 ≤ z.length ∧ z.length ≤ 6 := by unfold isNameL at hz; simp only [Bool.and_eq_true, decide_eq_true_eq] at hz; omega
    have zs : z.length ≤ sizeLine := Nat.le_of_lt (small1000 (by omega))
    -- nine and ten deep
    refine nx_ (seq_ ?_)
    refine for_lst (K := K) (ds := [.int 9, .int 10, .int 9]) (mk_cons mk_int (mk_cons mk_int (mk_cons mk_int mk_nil))) fun B HB vsB nB sB lB dB => ?_
    have DB := D5.same sB
    have BD := D5.apart nB
    refine ⟨fun i σ H6 => ∃ y3 y4 y5 y6 y7 y8 y9 y10 y11 y12 y13 y14, σ = [some (.ref a), some (.ref d), some (.str z), y3, y4, y5, y6, y7, y8, y9, y10, y11, y12, y13, y14] ∧ Dr H6 d g c ∧ Up d g HB H6, ⟨_, _, _, _, _, _, _, _, _, _, _, _, rfl, DB, Up.refl _⟩, (fun i σ H6 ⟨_, _, _, _, _, _, _, _, _, _, _, _, _, _, u⟩ => sl (u _ _ lB BD.1 BD.2.1)), ?_, ?_⟩
    · rintro i x dx σ H6 hx hdx hv ⟨y3, y4, y5, y6, y7, y8, y9, y10, y11, y12, y13, y14, rfl, D6, u6⟩
      obtain ⟨m, hm, rfl⟩ : ∃ m : Nat, (m = 9 ∨ m = 10) ∧ dx = .int (m : Int) := by
        match i, hdx with
        | 0, h => cases h; exact ⟨9, .inl rfl, rfl⟩
        | 1, h => cases h; exact ⟨10, .inr rfl, rfl⟩
        | 2, h => cases h; exact ⟨9, .inl rfl, rfl⟩
        | n + 3, h => simp at h
      cases hv
      refine nm1 (seq_set ?_)
      refine ⟨_, rfl, ?_⟩
      refine cons_ ?_
      refine run_tup (K := K) (ds := [.str "tell", .int 5]) (mk_cons mk_str (mk_cons mk_int mk_nil)) fun pt H7 nt st dt => ?_
      obtain ⟨c1, c2⟩ := cut5 hz
      refine ⟨_, rfl, _, rfl, _, rfl, _, rfl, zs, d, g, c, .ref pt, tellD 5, m, _, rfl, D6.same st, dt, rfl, by omega, c1, c2, fun p x y ws H8 hw D8 u8 hp hx hy => ?_⟩
      refine ⟨p, [x, y], rfl, hp, rfl, _, _, rfl, _, _, rfl, rfl, ?_⟩
      refine ⟨_, rfl, by show 1 ≤ sizeLine; decide, fun pr npr => ?_⟩
      obtain ⟨sr, dr⟩ := new_tup (K := K) npr (.cons hx .nil)
      have hy := sr.dp hy
      generalize upd _ _ _ = H9 at sr dr hy ⊢
      have D9 := D8.same sr
      have u9 := (u6.trans (Up.of st)).trans (u8.trans (Up.of sr))
      have wl : ws.length ≤ 10 := by omega
      have F1 := within_first c1 c2 hw hm
      have e9 : decide (V.int (m : Int) = V.int 9) = decide (m = 9) := decide_eq_decide.mpr ⟨fun h => by have := V.int.inj h; omega, fun h => by rw [h]; rfl⟩
      refine ⟨_, rfl, rfl, _, rfl, ?_⟩
      have cnt : cntD 30 (rowsD (.tuple [nestD (cutS z none (some 5)) (tellD 5) ws])) ≤ 60 := by
        show cntD 30 [nestD (cutS z none (some 5)) (tellD 5) ws] ≤ 60
        rw [cnt_nest c1 c2 (tell_leaf [] [] [] 5).bods ws 30 (by omega) (by omega)]
        omega
      by_cases h9 : m = 9
      · refine ite1 (e9.trans (decide_eq_true h9)) ⟨.ref pr, .non, _, if m = 9 then none else some (0 :: placeW ws), rfl, dr, within_good c1 c2 wl, sz_of cnt, by rw [if_pos h9]; rfl, within_short wl m, F1, prog_of F1 fun _ => cnt, fun HA sA => ⟨_, rfl, ite0 rfl ?_⟩⟩
        exact ⟨_, _, _, _, _, _, _, _, _, _, _, _, rfl, D9.same sA, u9.trans (Up.of sA)⟩
      · refine ite0 (e9.trans (decide_eq_false h9)) ⟨_, rfl, .ref pr, y, _, if m = 9 then none else some (0 :: placeW ws), rfl, dr, within_good c1 c2 wl, sz_of cnt, by rw [if_neg h9]; exact dp_place hy, within_short wl m, F1, prog_of F1 fun _ => cnt, fun HA sA => ⟨_, rfl, ite0 rfl ?_⟩⟩
        exact ⟨_, _, _, _, _, _, _, _, _, _, _, _, rfl, D9.same sA, u9.trans (Up.of sA)⟩
    · rintro σ H6 ⟨y3, y4, y5, y6, y7, y8, y9, y10, y11, y12, y13, y14, rfl, D6, u6⟩
      -- oftens
      refine nx_ (seq_ ?_)
      refine for_lst (K := K) (ds := [.int 3, .int 4]) (mk_cons mk_int (mk_cons mk_int mk_nil)) fun C HC vsC nC sC lC dC => ?_
      have DC := D6.same sC
      have CD := D6.apart nC
      refine ⟨fun i σ H7 => ∃ y3 y4 y5 y6 y7 y8 y9 y10 y11 y12 y13 y14, σ = [some (.ref a), some (.ref d), some (.str z), y3, y4, y5, y6, y7, y8, y9, y10, y11, y12, y13, y14] ∧ Dr H7 d g c ∧ Up d g HC H7, ⟨_, _, _, _, _, _, _, _, _, _, _, _, rfl, DC, Up.refl _⟩, (fun i σ H7 ⟨_, _, _, _, _, _, _, _, _, _, _, _, _, _, u⟩ => sl (u _ _ lC CD.1 CD.2.1)), ?_, ?_⟩
      · clear dB lB
        rintro i x dx σ H7 hx hdx hv ⟨y3, y4, y5, y6, y7, y8, y9, y10, y11, y12, y13, y14, rfl, D7, u7⟩
        obtain ⟨m, hm, rfl⟩ : ∃ m : Nat, (m = 3 ∨ m = 4) ∧ dx = .int (m : Int) := by
          match i, hdx with
          | 0, h => cases h; exact ⟨3, .inl rfl, rfl⟩
          | 1, h => cases h; exact ⟨4, .inr rfl, rfl⟩
          | n + 2, h => simp at h
        cases hv
        refine nm1 (seq_ ?_)
        refine cons_ ?_
        refine run_tup (K := K) (ds := [.str "put", .str z, .int 1]) ?zA fun pt H8 nt st dt => ?_
        case zA => exact mk_cons mk_str (mk_cons (mk_var rfl (.str z)) (mk_cons mk_int mk_nil))
        refine ⟨by show 1 ≤ sizeLine; decide, fun p0 np0 => ?_⟩
        have s0 := same_upd (o := .tup [.int 0]) np0
        have h0 : (upd H8 p0 (.tup [.int 0])) p0 = some (.tup [.int 0]) := upd_same
        generalize upd H8 p0 (.tup [.int 0]) = H9 at s0 h0 ⊢
        refine ⟨_, rfl, _, _, rfl, rfl, .inl ⟨by decide, by decide⟩, _, _, rfl, rfl, p0, 2 * (m : Int) - 1, [.int 0], rfl, rfl, stt h0, List.cons_ne_nil _ _, by omega, by omega, by decide, fun pl npl => ?_⟩
        have sl_ := same_upd (o := .tup (List.replicate (2 * (m : Int) - 1).toNat [V.int 0]).flatten) npl
        have hpl : SqT K (upd H9 pl (.tup (List.replicate (2 * (m : Int) - 1).toNat [V.int 0]).flatten)) pl ((List.replicate (2 * m - 1) (0 : Int)).map V.int) := by
          have e : (2 * (m : Int) - 1).toNat = 2 * m - 1 := by omega
          rw [e, List.flatten_replicate_singleton, List.map_replicate]
          exact stt upd_same
        generalize upd H9 pl (.tup (List.replicate (2 * (m : Int) - 1).toNat [V.int 0]).flatten) = HA at sl_ hpl ⊢
        have sA := (st.trans s0).trans sl_
        have DA := D7.same sA
        have uA := u7.trans (Up.of sA)
        have dtA := (s0.trans sl_).dp dt
        refine ⟨_, _, rfl, nx_ (seq_ ?_)⟩
        have tp : ∀ ns : List Nat, tupD (oftsD (.tuple [.str "put", .str z, .int 1]) ns) = true := fun ns => by
          induction ns with
          | nil => rfl
          | cons n ns ih => simp only [oftsD, tupD, tupAll, ih, Bool.and_self]
        refine ⟨_, rfl, (m : Int), rfl, by omega, by omega, for_range (lo := 0) (n := ((m : Int)).toNat) (fun j σ HB => ∃ (ns : List Nat) (x : V) (y6 : Option V), σ = [some (.ref a), some (.ref d), some (.str z), some (.int (m : Int)), some x, some (.ref pl), y6, y7, y8, y9, y10, y11, y12, y13, y14] ∧ ns.length = j ∧ (∀ k ∈ ns, k < 4) ∧ Dp K HB x (oftsD (.tuple [.str "put", .str z, .int 1]) ns) ∧ SqT K HB pl ((List.replicate (2 * m - 1) (0 : Int)).map V.int) ∧ Dr HB d g c ∧ Up d g HC HB) ?_ ?_ ?_⟩
        · exact ⟨[], _, _, rfl, rfl, (fun _ h => by cases h), dtA, hpl, DA, uA⟩
        · rintro j σ HB hj ⟨ns, x, y6, rfl, hns, h4, hx, hp, DB, uB⟩
          refine nm1 (one_set ?_)
          refine ⟨_, rfl, d, g, c, 4, rfl, DB, by decide, by decide, fun r HD r0 r1 DD uD => ?_⟩
          obtain ⟨k, rfl⟩ : ∃ k : Nat, r = (k : Int) := ⟨r.toNat, by omega⟩
          have hx := uD.dp DB (tp ns) hx
          have hp := uD.sqt DB hp
          refine ⟨_, rfl, by show 1 ≤ sizeLine; decide, fun pr npr => ?_⟩
          obtain ⟨sr, dr⟩ := new_tup (K := K) npr (.cons hx .nil)
          have hp := sr.sqt hp
          generalize upd _ _ _ = HE at sr dr hp ⊢
          refine ⟨by show 3 ≤ sizeLine; decide, fun po npo => ?_⟩
          obtain ⟨so, do_⟩ := new_tup (K := K) npo (.cons (.str "often") (.cons (.int (k : Int)) (.cons dr .nil)))
          have hp := so.sqt hp
          generalize upd _ _ _ = HF at so do_ hp ⊢
          refine nm_ ⟨k :: ns, _, _, rfl, by rw [List.length_cons, hns], fun q hq => ?_, do_, hp, DD.same (sr.trans so), (uB.trans uD).trans (Up.of (sr.trans so))⟩
          rcases List.mem_cons.mp hq with rfl | hq
          · omega
          · exact h4 q hq
        · rintro σ HB ⟨ns, x, y6, rfl, hns, h4, hx, hp, DB, uB⟩
          have hns : ns.length = m := by omega
          have L := put_leaf (cs := []) (ls := []) (hs := []) hz
          have g0 : Good (.tuple [.str "put", .str z, .int 1]) 1 := Good.tup (fun x hx => by
            rcases List.mem_cons.mp hx with rfl | hx
            · exact Good.str (str_lit (by decide +kernel)) _
            · rcases List.mem_cons.mp hx with rfl | hx
              · exact Good.str (Low.of hz) _
              · rw [List.mem_singleton.mp hx]; exact Good.int _ _) (by show 3 ≤ 10000; decide)
          have good : Good (.tuple [oftsD (.tuple [.str "put", .str z, .int 1]) ns]) 30 := (Good.tup (n := 1 + 2 * ns.length) (fun x hx => by rw [List.mem_singleton.mp hx]; exact good_oft g0 ns) (by show 1 ≤ 10000; decide)).mono (by omega)
          have F1 : firstD [] [] [] 30 (.tuple [oftsD (.tuple [.str "put", .str z, .int 1]) ns]) = if m = 3 then none else some (List.replicate (2 * m - 1) 0) := by
            rw [first_tup, wrong_oft L ns 30 [] [] 0 (by decide) (by omega) (by omega) (by simp only [List.length_nil]; omega) h4, hns, List.nil_append]
            rcases hm with rfl | rfl
            · rw [if_pos (by decide), if_pos rfl]
            · rw [if_neg (by decide), if_neg (by decide)]
          have cnt : cntD 30 (rowsD (.tuple [oftsD (.tuple [.str "put", .str z, .int 1]) ns])) ≤ 60 := by
            show cntD 30 [oftsD (.tuple [.str "put", .str z, .int 1]) ns] ≤ 60
            rw [cnt_oft L ns 30 (by omega)]
            omega
          have short : Short (if m = 3 then none else some (List.replicate (2 * m - 1) 0)) := by
            split
            · exact short_none
            · intro pl e
              cases e
              refine ⟨by rw [List.length_replicate]; omega, fun i hi => ?_⟩
              have := List.eq_of_mem_replicate hi
              omega
          refine nx_ ?_
          refine ⟨_, rfl, by show 1 ≤ sizeLine; decide, fun pr npr => ?_⟩
          obtain ⟨sr, dr⟩ := new_tup (K := K) npr (.cons hx .nil)
          have hp := sr.sqt hp
          generalize upd _ _ _ = HE at sr dr hp ⊢
          have e3 : decide (V.int (m : Int) = V.int 3) = decide (m = 3) := decide_eq_decide.mpr ⟨fun h => by have := V.int.inj h; omega, fun h => by rw [h]; rfl⟩
          refine ⟨_, rfl, rfl, _, rfl, ?_⟩
          by_cases h3 : m = 3
          · refine ite1 (e3.trans (decide_eq_true h3)) ⟨.ref pr, .non, _, _, rfl, dr, good, sz_of cnt, (by rw [if_pos h3]; rfl), short, F1, prog_of F1 fun _ => cnt, fun HG sG => ⟨_, rfl, ite0 rfl ?_⟩⟩
            exact ⟨_, _, _, _, _, _, _, _, _, _, _, _, rfl, DB.same (sr.trans sG), uB.trans (Up.of (sr.trans sG))⟩
          · refine ite0 (e3.trans (decide_eq_false h3)) ⟨_, rfl, .ref pr, .ref pl, _, _, rfl, dr, good, sz_of cnt, (by rw [if_neg h3]; exact ⟨pl, rfl, hp⟩), short, F1, prog_of F1 fun _ => cnt, fun HG sG => ⟨_, rfl, ite0 rfl ?_⟩⟩
            exact ⟨_, _, _, _, _, _, _, _, _, _, _, _, rfl, DB.same (sr.trans sG), uB.trans (Up.of (sr.trans sG))⟩
      · rintro σ H7 ⟨y3, y4, y5, y6, y7, y8, y9, y10, y11, y12, y13, y14, rfl, D7, u7⟩
        clear dC lC
        refine nx_ (seq_ ?_)
        refine for_lst (K := K) (ds := [.tuple [.str "rest", .int 0, .int 9], .tuple [.str "within", .int 1, .int 9], .tuple [.str "often", .int 0, .int 3]]) ?zA fun F3 HF vsF nF sF lF dF => ?_
        case zA =>
          repeat' first | exact mk_nil | exact mk_str | exact mk_int | apply mk_tup | apply mk_cons
          all_goals simp
        have DF := D7.same sF
        refine ⟨fun i σ H8 => ∃ y3 y4 y5 y6 y7 y8 y9 y10 y11 y12 y13 y14, σ = [some (.ref a), some (.ref d), some (.str z), y3, y4, y5, y6, y7, y8, y9, y10, y11, y12, y13, y14] ∧ Same HF H8, ⟨_, _, _, _, _, _, _, _, _, _, _, _, rfl, Same.refl _⟩, (fun i σ H8 ⟨_, _, _, _, _, _, _, _, _, _, _, _, _, s⟩ => sl (s _ _ lF)), ?_, ?_⟩
        · rintro i x dx σ H8 hx hdx hv ⟨y3, y4, y5, y6, y7, y8, y9, y10, y11, y12, y13, y14, rfl, s8⟩
          obtain ⟨k, low, high, hk, rfl⟩ : ∃ (k : Str) (low high : Int), ((k = "rest" ∧ low = 0 ∧ high = 9) ∨ (k = "within" ∧ low = 1 ∧ high = 9) ∨ (k = "often" ∧ low = 0 ∧ high = 3)) ∧ dx = .tuple [.str k, .int low, .int high] := by
            match i, hdx with
            | 0, h => cases h; exact ⟨"rest", 0, 9, .inl ⟨rfl, rfl, rfl⟩, rfl⟩
            | 1, h => cases h; exact ⟨"within", 1, 9, .inr (.inl ⟨rfl, rfl, rfl⟩), rfl⟩
            | 2, h => cases h; exact ⟨"often", 0, 3, .inr (.inr ⟨rfl, rfl, rfl⟩), rfl⟩
            | n + 3, h => simp at h
          obtain ⟨t, xs, rfl, ht, hall⟩ := dp_tup (s8.dp hv)
          obtain rfl : xs = [.str k, .int low, .int high] := by
            cases hall with
            | cons h t => cases h; cases t with
              | cons h t => cases h; cases t with
                | cons h t => cases h; cases t; rfl
          refine ⟨t, _, rfl, ht, rfl, _, _, rfl, _, _, rfl, _, _, rfl, rfl, ?_⟩
          refine for_lst (K := K) (ds := [.int (low - 1), .int low, .int high, .int (high + 1)]) ?zA fun G3 HG vsG nG sG lG dG => ?_
          case zA =>
            have hm : MkE K _ H8 (tOp (rI0 fun i j => .int (i - j)) (tVar 8) (tC (.int 1))) (.int (low - 1)) := mk_of (σ := [some (.ref a), some (.ref d), some (.str z), y3, y4, y5, y6, some (.str k), some (.int low), some (.int high), y10, y11, y12, y13, y14]) fun H7 Q7 s7 q7 => ⟨_, rfl, _, _, rfl, rfl, q7 _ _ (Same.refl _) (.int _)⟩
            have hp : MkE K _ H8 (tOp (rI0 fun i j => .int (i + j)) (tVar 9) (tC (.int 1))) (.int (high + 1)) := mk_of (σ := [some (.ref a), some (.ref d), some (.str z), y3, y4, y5, y6, some (.str k), some (.int low), some (.int high), y10, y11, y12, y13, y14]) fun H7 Q7 s7 q7 => ⟨_, rfl, _, _, rfl, rfl, q7 _ _ (Same.refl _) (.int _)⟩
            exact mk_cons hm (mk_cons (mk_var rfl (.int _)) (mk_cons (mk_var rfl (.int _)) (mk_cons hp mk_nil)))
          refine ⟨fun i σ H9 => ∃ y3 y4 y5 y6 y10 y11 y12 y13 y14, σ = [some (.ref a), some (.ref d), some (.str z), y3, y4, y5, y6, some (.str k), some (.int low), some (.int high), y10, y11, y12, y13, y14] ∧ Same HG H9, ⟨_, _, _, _, _, _, _, _, _, rfl, Same.refl _⟩, (fun i σ H9 ⟨_, _, _, _, _, _, _, _, _, _, s⟩ => sl (s _ _ lG)), ?_, fun σ H9 ⟨_, _, _, _, _, _, _, _, _, e, s⟩ => ⟨_, _, _, _, _, _, _, _, _, _, _, _, e, (s8.trans sG).trans s⟩⟩
          rintro j x dx σ H9 hx hdx hv ⟨y3, y4, y5, y6, y10, y11, y12, y13, y14, rfl, s9⟩
          obtain ⟨num, rfl⟩ : ∃ num : Int, dx = .int num := by
            match j, hdx with
            | 0, h => cases h; exact ⟨_, rfl⟩
            | 1, h => cases h; exact ⟨_, rfl⟩
            | 2, h => cases h; exact ⟨_, rfl⟩
            | 3, h => cases h; exact ⟨_, rfl⟩
            | n + 4, h => simp at h
          cases hv
          have O := num_ok hz num hk
          refine nm1 (seq_set ?_)
          refine fun pd npd => ?_
          have sd := same_upd (o := .dK []) npd
          have hd : (upd H9 pd (.dK [])) pd = some (.dK []) := upd_same
          generalize upd H9 pd (.dK []) = HA at sd hd ⊢
          refine ⟨_, rfl, _, rfl, by show 2 ≤ sizeLine; decide, fun p1 n1 => ?_⟩
          obtain ⟨t1, d1⟩ := new_tup (K := K) n1 (.cons (.str k) (.cons (.int num) .nil))
          have hd := t1 _ _ hd
          generalize upd _ _ _ = HB at t1 d1 hd ⊢
          refine ⟨_, rfl, _, rfl, _, rfl, Nat.zero_le _, fun p2 n2 => ?_⟩
          obtain ⟨t2, d2⟩ := new_tup (K := K) n2 .nil
          have hd := t2 _ _ hd
          have d1 := t2.dp d1
          generalize upd _ _ _ = HC' at t2 d2 hd d1 ⊢
          refine ⟨by show 4 ≤ sizeLine; decide, fun p3 n3 => ?_⟩
          obtain ⟨t3, d3⟩ := new_tup (K := K) n3 (.cons (.str k) (.cons (.int num) (.cons (.str z) (.cons d2 .nil))))
          have hd := t3 _ _ hd
          have d1 := t3.dp d1
          generalize upd _ _ _ = HD at t3 d3 hd d1 ⊢
          refine ⟨_, rfl, _, rfl, Nat.zero_le _, fun p4 n4 => ?_⟩
          obtain ⟨t4, d4⟩ := new_tup (K := K) n4 .nil
          have hd := t4 _ _ hd
          have d1 := t4.dp d1
          have d3 := t4.dp d3
          generalize upd _ _ _ = HE at t4 d4 hd d1 d3 ⊢
          refine ⟨by show 3 ≤ sizeLine; decide, fun p5 n5 => ?_⟩
          obtain ⟨t5, d5⟩ := new_tup (K := K) n5 (.cons (.str k) (.cons (.int num) (.cons d4 .nil)))
          have hd := t5 _ _ hd
          have d1 := t5.dp d1
          have d3 := t5.dp d3
          generalize upd _ _ _ = HF' at t5 d5 hd d1 d3 ⊢
          refine ⟨hd, [(Sum.inr "rest", .ref p1), (Sum.inr "within", .ref p3), (Sum.inr "often", .ref p5)], rfl, by show 3 ≤ 15; decide, ?_⟩
          have s9F : Same H9 (upd HF' pd (.dK (mergeK [] [((Sum.inr "rest" : Key), V.ref p1), (Sum.inr "within", .ref p3), (Sum.inr "often", .ref p5)]))) := (sd.trans ((t1.trans t2).trans ((t3.trans t4).trans t5))).own npd
          have hd1 : (upd HF' pd (.dK (mergeK [] [((Sum.inr "rest" : Key), V.ref p1), (Sum.inr "within", .ref p3), (Sum.inr "often", .ref p5)]))) pd = some (.dK [((Sum.inr "rest" : Key), V.ref p1), (Sum.inr "within", .ref p3), (Sum.inr "often", .ref p5)]) := upd_same
          have kp : ∀ {x : V} {dx : PyData}, tupD dx = true → Dp K HF' x dx → Dp K (upd HF' pd (.dK (mergeK [] [((Sum.inr "rest" : Key), V.ref p1), (Sum.inr "within", .ref p3), (Sum.inr "often", .ref p5)]))) x dx := fun ht hx => dp_keep (fun b xs h => sqt_setk hd h) ht hx
          have d1 := kp rfl d1
          have d3 := kp rfl d3
          have d5 := kp rfl d5
          generalize upd HF' pd (.dK (mergeK [] [((Sum.inr "rest" : Key), V.ref p1), (Sum.inr "within", .ref p3), (Sum.inr "often", .ref p5)])) = HX at s9F hd1 d1 d3 d5 ⊢
          obtain ⟨vr, ev, hvr⟩ : ∃ vr, valV [((Sum.inr "rest" : Key), V.ref p1), (Sum.inr "within", .ref p3), (Sum.inr "often", .ref p5)] (Sum.inr k : Key) = some vr ∧ Dp K HX vr (numRow k z num) := by
            rcases hk with ⟨rfl, _, _⟩ | ⟨rfl, _, _⟩ | ⟨rfl, _, _⟩
            · exact ⟨_, rfl, d1⟩
            · exact ⟨_, rfl, d3⟩
            · exact ⟨_, rfl, d5⟩
          have g := DGet.k (k := Sum.inr k) hd1
          rw [ev] at g
          refine ⟨_, rfl, pd, _, rfl, g, nm1 ?_⟩
          -- right
          refine ⟨by show 2 ≤ sizeLine; decide, fun q1 m1 => ?_⟩
          obtain ⟨r1, e1⟩ := new_tup (K := K) m1 (.cons (.str "tell") (.cons (.int 1) .nil))
          have hvr := r1.dp hvr
          generalize upd _ _ _ = HY at r1 e1 hvr ⊢
          refine ⟨_, rfl, by show 2 ≤ sizeLine; decide, fun q2 m2 => ?_⟩
          obtain ⟨r2, e2⟩ := new_tup (K := K) m2 (.cons e1 (.cons hvr .nil))
          generalize upd _ _ _ = HZ at r2 e2 ⊢
          have s9Z := s9F.trans (r1.trans r2)
          have F1 : firstD [] [] [] 30 (.tuple [tellD 1, numRow k z num]) = if decide (low ≤ num ∧ num ≤ high) = true then none else some [1] := by rw [two_first O.flat, O.row]
          have good : Good (.tuple [tellD 1, numRow k z num]) 30 := (Good.tup (n := 2) (fun x hx => by
            rcases List.mem_cons.mp hx with rfl | hx
            · exact (good_tell 1).mono (by decide)
            · rw [List.mem_singleton.mp hx]; exact O.good) (by show 2 ≤ 10000; decide)).mono (by decide)
          have cnt : cntD 30 (rowsD (.tuple [tellD 1, numRow k z num])) ≤ 60 := by
            show cntD 30 ([tellD 1] ++ [numRow k z num]) ≤ 60
            rw [cnt_app, cnt_flat O.flat 29, cnt_flat ⟨by show (0 : Int) ≤ 1; decide, fun b hb => by rw [(tell_leaf [] [] [] 1).bods] at hb; cases hb⟩ 29]
            decide
          have short : Short (if decide (low ≤ num ∧ num ≤ high) = true then none else some [1]) := short_one ⟨by decide, by decide⟩
          have fin : ∀ HW, Same H9 HW → ∃ y3 y4 y5 y6 y10' y11' y12' y13' y14', [some (.ref a), some (.ref d), some (.str z), y3, some vr, y5, y6, some (.str k), some (.int low), some (.int high), some (.int num), y11, y12, y13, y14] = [some (.ref a), some (.ref d), some (.str z), y3, y4, y5, y6, some (.str k), some (.int low), some (.int high), y10', y11', y12', y13', y14'] ∧ Same HG HW := fun HW sW => ⟨y3, some vr, y5, y6, some (.int num), y11, y12, y13, y14, rfl, s9.trans sW⟩
          have bad : ¬ (low ≤ num ∧ num ≤ high) → ∀ q3 : Addr, HZ q3 = none → Res K (upd HZ q3 (.tup [.int 1])) (if decide (low ≤ num ∧ num ≤ high) = true then none else some [1]) (.ref q3) ∧ Same HZ (upd HZ q3 (.tup [.int 1])) := fun hb q3 m3 => by
            rw [if_neg (by rw [decide_eq_false hb]; decide)]
            exact ⟨⟨q3, rfl, stt upd_same⟩, same_upd m3⟩
          refine ⟨_, rfl, _, rfl, _, _, rfl, rfl, _, rfl, ?_⟩
          refine ite2 (fun hl => ?_) (fun hl => ?_)
          · have hl := of_decide_eq_true hl
            refine ⟨_, rfl, _, _, rfl, rfl, _, rfl, ?_⟩
            by_cases hh : num ≤ high
            · refine ite1 (decide_eq_true hh) ⟨.ref q2, .non, _, _, rfl, e2, good, sz_of cnt, (by rw [if_pos (decide_eq_true ⟨hl, hh⟩)]; rfl), short, F1, prog_of F1 fun _ => cnt, fun HW sW => ⟨_, rfl, ite0 rfl ⟨y3, some vr, y5, y6, some (.int num), y11, y12, y13, y14, rfl, s9.trans (s9Z.trans sW)⟩⟩⟩
            · refine ite0 (decide_eq_false hh) ⟨by show 1 ≤ sizeLine; decide, fun q3 m3 => ?_⟩
              obtain ⟨b1, b2⟩ := bad (fun h => hh h.2) q3 m3
              exact ⟨.ref q2, .ref q3, _, _, rfl, b2.dp e2, good, sz_of cnt, b1, short, F1, prog_of F1 fun _ => cnt, fun HW sW => ⟨_, rfl, ite0 rfl ⟨y3, some vr, y5, y6, some (.int num), y11, y12, y13, y14, rfl, s9.trans ((s9Z.trans b2).trans sW)⟩⟩⟩
          · have hl : ¬ low ≤ num := fun h => hl (decide_eq_true h)
            refine ⟨_, rfl, iteF ⟨by show 1 ≤ sizeLine; decide, fun q3 m3 => ?_⟩⟩
            obtain ⟨b1, b2⟩ := bad (fun h => hl h.1) q3 m3
            exact ⟨.ref q2, .ref q3, _, _, rfl, b2.dp e2, good, sz_of cnt, b1, short, F1, prog_of F1 fun _ => cnt, fun HW sW => ⟨_, rfl, ite0 rfl ⟨y3, some vr, y5, y6, some (.int num), y11, y12, y13, y14, rfl, s9.trans ((s9Z.trans b2).trans sW)⟩⟩⟩
        · rintro σ H8 ⟨y3, y4, y5, y6, y7, y8, y9, y10, y11, y12, y13, y14, rfl, s8⟩
          have D8 := DF.same s8
          clear dF lF
          obtain ⟨L7, n7, L6, n6⟩ := long_ok hz
          refine nx_ (seq_set ?_)
          refine ⟨_, rfl, _, _, rfl, rfl, ?_, _, rfl, _, rfl, ?_, ?_⟩
          · show z.length + 6 ≤ sizeLine
            exact Nat.le_of_lt (small1000 (by omega))
          · rw [strLen_append]
            show z.length + 6 ≤ sizeLine
            exact Nat.le_of_lt (small1000 (by omega))
          rw [show cutS (z ++ "abcdef") none (some 7) = longN z from rfl]
          refine nm1 (seq_ ?_)
          refine for_lst (K := K) (ds := [.str (cutS (longN z) none (some 6)), .str (longN z)]) ?zA fun G4 HG vsG nG sG lG dG => ?_
          case zA =>
            refine mk_cons (mk_of fun H9 Q9 s9 q9 => ?_) (mk_cons (mk_var rfl (.str _)) mk_nil)
            refine ⟨_, rfl, _, rfl, _, rfl, ?_, q9 _ _ (Same.refl _) (.str _)⟩
            rw [n7]
            decide
          have DG := D8.same sG
          refine ⟨fun i σ H9 => ∃ y3 y4 y5 y6 y7 y8 y9 y10 y11 y12 y13 y14, σ = [some (.ref a), some (.ref d), some (.str z), y3, y4, y5, y6, y7, y8, y9, y10, y11, y12, y13, y14] ∧ Same HG H9, ⟨_, _, _, _, _, _, _, _, _, _, _, _, rfl, Same.refl _⟩, (fun i σ H9 ⟨_, _, _, _, _, _, _, _, _, _, _, _, _, s⟩ => sl (s _ _ lG)), ?_, ?_⟩
          · rintro i x dx σ H9 hx hdx hv ⟨y3, y4, y5, y6, y7, y8, y9, y10, y11, y12, y13, y14, rfl, s9⟩
            obtain ⟨y, Ly, hy, rfl⟩ : ∃ y : Str, Low y ∧ isNameL y = decide (y.length < 7) ∧ dx = .str y := by
              match i, hdx with
              | 0, h => cases h; exact ⟨_, L6, by rw [L6.name (by omega) (by omega), n6]; rfl, rfl⟩
              | 1, h => cases h; exact ⟨_, L7, by unfold isNameL; rw [n7]; rfl, rfl⟩
              | n + 2, h => simp at h
            cases hv
            have ly : y.length ≤ sizeLine := Nat.le_of_lt (small1000 Ly.few)
            obtain ⟨O1, O2, O3, O4⟩ := one_oks Ly
            have short : Short (if decide (y.length < 7) = true then none else some [0]) := short_one ⟨by decide, by decide⟩
            refine nm1 ?_
            refine ⟨fun σ HA => ∃ dv, σ = [some (.ref a), some (.ref d), some (.str z), y3, y4, y5, y6, y7, y8, y9, y10, y11, some (.str y), some dv, y14] ∧ Same H9 HA ∧ Res K HA (if decide (y.length < 7) = true then none else some [0]) dv, ?_, ?_⟩
            · have e7 : decide (((y.length : Nat) : Int) < 7) = decide (y.length < 7) := decide_eq_decide.mpr ⟨fun h => by omega, fun h => by omega⟩
              refine ⟨_, rfl, _, rfl, ly, _, _, rfl, rfl, _, rfl, ?_⟩
              cases h7 : decide (y.length < 7) with
              | true => exact ite1 (e7.trans h7) ⟨_, rfl, Same.refl _, by rw [if_pos rfl]; rfl⟩
              | false =>
                refine ite0 (e7.trans h7) ⟨by show 1 ≤ sizeLine; decide, fun p np => ⟨_, rfl, same_upd np, ?_⟩⟩
                rw [if_neg Bool.false_ne_true]
                exact ⟨p, rfl, stt upd_same⟩
            rintro σ HA ⟨dv, rfl, sA, hdv⟩
            -- put
            refine ⟨_, rfl, by show 3 ≤ sizeLine; decide, fun p1 n1 => ?_⟩
            obtain ⟨t1, d1⟩ := new_tup (K := K) n1 (.cons (.str "put") (.cons (.str y) (.cons (.int 1) .nil)))
            generalize upd _ _ _ = HB at t1 d1 ⊢
            refine ⟨by show 1 ≤ sizeLine; decide, fun p2 n2 => ?_⟩
            obtain ⟨t2, d2⟩ := new_tup (K := K) n2 (.cons d1 .nil)
            generalize upd _ _ _ = HC at t2 d2 ⊢
            obtain ⟨g1, F1, cnt⟩ := one_facts O1 hy
            have hdv := hdv.same (t1.trans t2)
            refine ⟨_, rfl, .ref p2, dv, _, _, rfl, d2, g1, sz_of cnt, hdv, short, F1, prog_of F1 fun _ => cnt, fun HD sD => ⟨_, rfl, ite0 rfl ?_⟩⟩
            have sA := sA.trans ((t1.trans t2).trans sD)
            have hdv := hdv.same sD
            clear t1 t2 d1 d2 sD n1 n2 F1 cnt g1
            -- fail
            refine ⟨_, rfl, by show 2 ≤ sizeLine; decide, fun p1 n1 => ?_⟩
            obtain ⟨t1, d1⟩ := new_tup (K := K) n1 (.cons (.str "fail") (.cons (.str y) .nil))
            generalize upd _ _ _ = HB at t1 d1 ⊢
            refine ⟨by show 1 ≤ sizeLine; decide, fun p2 n2 => ?_⟩
            obtain ⟨t2, d2⟩ := new_tup (K := K) n2 (.cons d1 .nil)
            generalize upd _ _ _ = HC at t2 d2 ⊢
            obtain ⟨g1, F1, cnt⟩ := one_facts O2 hy
            have hdv := hdv.same (t1.trans t2)
            refine ⟨_, rfl, .ref p2, dv, _, _, rfl, d2, g1, sz_of cnt, hdv, short, F1, prog_of F1 fun _ => cnt, fun HE sE => ⟨_, rfl, ite0 rfl ?_⟩⟩
            have sA := sA.trans ((t1.trans t2).trans sE)
            have hdv := hdv.same sE
            clear t1 t2 d1 d2 sE n1 n2 F1 cnt g1
            -- nest
            refine ⟨_, rfl, Nat.zero_le _, fun p0 n0 => ?_⟩
            obtain ⟨t0, d0⟩ := new_tup (K := K) n0 .nil
            generalize upd _ _ _ = HB at t0 d0 ⊢
            refine ⟨by show 3 ≤ sizeLine; decide, fun p1 n1 => ?_⟩
            obtain ⟨t1, d1⟩ := new_tup (K := K) n1 (.cons (.str "nest") (.cons (.str y) (.cons d0 .nil)))
            generalize upd _ _ _ = HB' at t1 d1 ⊢
            refine ⟨by show 1 ≤ sizeLine; decide, fun p2 n2 => ?_⟩
            obtain ⟨t2, d2⟩ := new_tup (K := K) n2 (.cons d1 .nil)
            generalize upd _ _ _ = HC at t2 d2 ⊢
            obtain ⟨g1, F1, cnt⟩ := one_facts O3 hy
            have hdv := hdv.same ((t0.trans t1).trans t2)
            refine ⟨_, rfl, .ref p2, dv, _, _, rfl, d2, g1, sz_of cnt, hdv, short, F1, prog_of F1 fun _ => cnt, fun HF' sF' => ⟨_, rfl, ite0 rfl ?_⟩⟩
            have sA := sA.trans (((t0.trans t1).trans t2).trans sF')
            have hdv := hdv.same sF'
            clear t0 t1 t2 d0 d1 d2 sF' n0 n1 n2 F1 cnt g1
            -- tell
            refine ⟨_, rfl, by show 3 ≤ sizeLine; decide, fun p0 n0 => ?_⟩
            obtain ⟨t0, d0⟩ := new_tup (K := K) n0 (.cons (.str "sum") (.cons (.int 1) (.cons (.str y) .nil)))
            generalize upd _ _ _ = HB at t0 d0 ⊢
            refine ⟨by show 2 ≤ sizeLine; decide, fun p1 n1 => ?_⟩
            obtain ⟨t1, d1⟩ := new_tup (K := K) n1 (.cons (.str "tell") (.cons d0 .nil))
            generalize upd _ _ _ = HB' at t1 d1 ⊢
            refine ⟨by show 1 ≤ sizeLine; decide, fun p2 n2 => ?_⟩
            obtain ⟨t2, d2⟩ := new_tup (K := K) n2 (.cons d1 .nil)
            generalize upd _ _ _ = HC at t2 d2 ⊢
            obtain ⟨g1, F1, cnt⟩ := one_facts O4 hy
            have hdv := hdv.same ((t0.trans t1).trans t2)
            refine ⟨_, rfl, .ref p2, dv, _, _, rfl, d2, g1, sz_of cnt, hdv, short, F1, prog_of F1 fun _ => cnt, fun HF' sF' => ⟨_, rfl, ite0 rfl ?_⟩⟩
            have sA := sA.trans (((t0.trans t1).trans t2).trans sF')
            exact ⟨_, _, _, _, _, _, _, _, _, _, _, _, rfl, s9.trans sA⟩
          · rintro σ H9 ⟨y3, y4, y5, y6, y7, y8, y9, y10, y11, y12, y13, y14, rfl, s9⟩
            have D9 := DG.same s9
            clear dG lG
            refine nx_ (seq_set ?_)
            refine ⟨_, rfl, d, g, c, 60, rfl, D9, by decide, fun t qs HA hq DA uA ht => nm1 ?_⟩
            have cq : cntD 30 (qs.map sprow) = 60 := by rw [show cntD 30 (qs.map sprow) = cntD (29 + 1) (qs.map sprow) from rfl, cnt_sp (by decide), hq]
            have gq : Good (.tuple (qs.map sprow)) 30 := good_sp (by omega)
            have P1 : progD 30 [] [] [] (.tuple (qs.map sprow)) = none := prog_of spread_first fun _ => by show cntD 30 (qs.map sprow) ≤ 60; omega
            refine ⟨_, rfl, .ref t, .non, .non, .non, .tuple (qs.map sprow), [], [], [], rfl, ht, gq, .inl ⟨rfl, rfl⟩, okD0, .inl ⟨rfl, rfl⟩, Nat.zero_le _, (fun _ h => by cases h), .inl ⟨rfl, rfl⟩, okD0, sz_of (by show cntD 30 (qs.map sprow) ≤ 60; omega), fun v HB sB rB => ?_⟩
            rw [P1] at rB
            have rB : v = .non := rB
            subst rB
            refine ⟨rfl, _, rfl, ite0 (by rw [decide_eq_true rfl]; rfl) ?_⟩
            have ht := sB.dp ht
            have lq := totQ_len qs
            refine ⟨_, rfl, _, rfl, cat_dp ht ht (by rw [List.length_map]; exact Nat.le_of_lt (small1000 (by omega))) fun t2 HC sC hc => ?_⟩
            rw [← List.map_append] at hc
            have tq : totQ (qs ++ qs) = 120 := by
              unfold totQ at hq ⊢
              rw [List.map_append, List.sum_append, hq]
            refine ⟨.ref t2, _, _, _, _, [], [], [], rfl, hc, good_sp (by omega), T.dt_first_cells _, T.dt_first_locks _, T.dt_first_channels _, fun v HD sD rD => ?_⟩
            rw [spread_first] at rD
            have rD : v = .non := rD
            subst rD
            refine ⟨rfl, _, rfl, ite0 (by rw [decide_eq_true rfl]; rfl) ?_⟩
            have DD := DA.same ((sB.trans sC).trans sD)
            -- sixty-one
            refine ⟨_, rfl, d, g, c, 61, rfl, DD, by decide, fun t3 qs3 HE hq3 DE uE ht3 => ?_⟩
            have c3 : cntD 30 (qs3.map sprow) = 61 := by rw [show cntD 30 (qs3.map sprow) = cntD (29 + 1) (qs3.map sprow) from rfl, cnt_sp (by decide), hq3]
            have g3 : Good (.tuple (qs3.map sprow)) 30 := good_sp (by omega)
            have P3 : progD 30 [] [] [] (.tuple (qs3.map sprow)) = some [] := by
              have e : progD 30 [] [] [] (.tuple (qs3.map sprow)) = match firstD [] [] [] 30 (.tuple (qs3.map sprow)) with
                | some pl => some pl
                | none => if (placesD 30 (rowsD (.tuple (qs3.map sprow))) []).length ≤ 60 then none else some [] := rfl
              rw [e, spread_first]
              dsimp only
              rw [places_len, if_neg (by show ¬ cntD 30 (qs3.map sprow) ≤ 60; omega)]
            refine ⟨.ref t3, .non, .non, .non, .tuple (qs3.map sprow), [], [], [], rfl, ht3, g3, .inl ⟨rfl, rfl⟩, okD0, .inl ⟨rfl, rfl⟩, Nat.zero_le _, (fun _ h => by cases h), .inl ⟨rfl, rfl⟩, okD0, by rw [places_len]; show cntD 30 (qs3.map sprow) ≤ sizeLine; rw [c3]; decide, fun v HF sF rF => ?_⟩
            rw [P3] at rF
            obtain ⟨t1, t2, t3, t4⟩ := res_show short_nil
            refine ⟨v, .tuple [], rfl, res_dp rF, t1, t2, t3, t4, ?_⟩
            refine ⟨rfl, ?_⟩
            rw [decide_eq_true (show V.str (PyData.shown (.tuple [])) = V.str "()" by decide +kernel)]
            exact q _
end
end T06
namespace T06
open PySem PySem.Spec PyProof.Rows L2 HX HB HG HU HH HD HS HV HQ HK TL
/-! ### the head -/
def faL0 : List He.Fa := [.glo "is_name", .glo "is_number", .glo "is_calc", .glo "bodies_of", .glo "is_part", .glo "is_row", .glo "around_in", .glo "wrong_in", .glo "first_wrong", .glo "places_in", .glo "are_sizes", .glo "are_locks", .meth "NoProgram" "__init__", .meth "Program" "__init__", .glo "_law_begun", .glo "_law_next", .glo "_law_name", .glo "_law_within", .glo "_law_refused", .glo "_law_right"]
def faL1 : List He.Fa := [.glo "_law_spread", .glo "_law_heads_right", .glo "law", .glo "NoProgram", .exm "NoProgram" "NoProgram" true, .noat "NoProgram" "place", .glo "Program", .cls "Program", .mkr "Program", .noat "Program" "spots", .noat "Program" "tree", .noat "Program" "first", .noat "Program" "bolts", .noat "Program" "widths", .glo "YardError", .str "LETTERS" "abcdefghijklmnopqrstuvwxyz", .glo "KINDS", .glo "PARTS", .glo "RANGES", .int "MOST_DEEP" 9]
def faL2 : List He.Fa := [.int "MOST_OFTEN" 2, .int "LIMIT" 400, .int "MOST" 3000, .int "MOST_ROWS" 60, .int "MOST_NAMES" 4, .free "all", .free "bool", .free "dict", .free "enumerate", .free "int", .free "isinstance", .free "len", .free "list", .free "min", .free "range", .free "repr", .free "set", .free "sorted", .free "str", .free "tuple"]
def faL3 : List He.Fa := [.free "zip"]
def faL : List He.Fa := faL0 ++ faL1 ++ faL2 ++ faL3
def dd_isname : He.DefD := ⟨("is_name", none), "is_name", "is_name", defArgs s_isname, defBody s_isname, defScope s_isname, [], []⟩
def dd_isnum : He.DefD := ⟨("is_number", none), "is_number", "is_number", defArgs s_isnum, defBody s_isnum, defScope s_isnum, [], []⟩
def dd_iscalc : He.DefD := ⟨("is_calc", none), "is_calc", "is_calc", defArgs s_iscalc, defBody s_iscalc, defScope s_iscalc, [], []⟩
def dd_bodies : He.DefD := ⟨("bodies_of", none), "bodies_of", "bodies_of", defArgs s_bodies, defBody s_bodies, defScope s_bodies, [], []⟩
def dd_ispart : He.DefD := ⟨("is_part", none), "is_part", "is_part", defArgs s_ispart, defBody s_ispart, defScope s_ispart, [], []⟩
def dd_isrow : He.DefD := ⟨("is_row", none), "is_row", "is_row", defArgs s_isrow, defBody s_isrow, defScope s_isrow, [], []⟩
def dd_around : He.DefD := ⟨("around_in", none), "around_in", "around_in", defArgs s_around, defBody s_around, defScope s_around, [], []⟩
def dd_wrong : He.DefD := ⟨("wrong_in", none), "wrong_in", "wrong_in", defArgs s_wrong, defBody s_wrong, defScope s_wrong, [], []⟩
def dd_first : He.DefD := ⟨("first_wrong", none), "first_wrong", "first_wrong", defArgs s_first, defBody s_first, defScope s_first, [], [("cells", .adr (HH.kwAt ("first_wrong", none) "cells")), ("locks", .adr (HH.kwAt ("first_wrong", none) "locks")), ("channels", .adr (HH.kwAt ("first_wrong", none) "channels"))]⟩
def dd_places : He.DefD := ⟨("places_in", none), "places_in", "places_in", defArgs s_places, defBody s_places, defScope s_places, [], []⟩
def dd_sizes : He.DefD := ⟨("are_sizes", none), "are_sizes", "are_sizes", defArgs s_sizes, defBody s_sizes, defScope s_sizes, [], []⟩
def dd_locks : He.DefD := ⟨("are_locks", none), "are_locks", "are_locks", defArgs s_locks, defBody s_locks, defScope s_locks, [], []⟩
def dd_np : He.DefD := ⟨("NoProgram", some "__init__"), "__init__", "NoProgram.__init__", defArgs s_np, defBody s_np, defScope s_np, [], []⟩
def dd_prog : He.DefD := ⟨("Program", some "__init__"), "__init__", "Program.__init__", defArgs s_prog, defBody s_prog, defScope s_prog, [], [("cells", .non), ("locks", .non), ("channels", .non)]⟩
def dd_begun : He.DefD := ⟨("_law_begun", none), "_law_begun", "_law_begun", defArgs s_begun, defBody s_begun, defScope s_begun, [], []⟩
def dd_next : He.DefD := ⟨("_law_next", none), "_law_next", "_law_next", defArgs s_next, defBody s_next, defScope s_next, [], []⟩
def dd_name : He.DefD := ⟨("_law_name", none), "_law_name", "_law_name", defArgs s_name, defBody s_name, defScope s_name, [], []⟩
def dd_within : He.DefD := ⟨("_law_within", none), "_law_within", "_law_within", defArgs s_within, defBody s_within, defScope s_within, [], []⟩
def dd_refused : He.DefD := ⟨("_law_refused", none), "_law_refused", "_law_refused", defArgs s_refused, defBody s_refused, defScope s_refused, [], []⟩
def dd_right : He.DefD := ⟨("_law_right", none), "_law_right", "_law_right", defArgs s_right, defBody s_right, defScope s_right, [], []⟩
def dd_spread : He.DefD := ⟨("_law_spread", none), "_law_spread", "_law_spread", defArgs s_spread, defBody s_spread, defScope s_spread, [], []⟩
def dd_heads : He.DefD := ⟨("_law_heads_right", none), "_law_heads_right", "_law_heads_right", defArgs s_heads, defBody s_heads, defScope s_heads, [], []⟩
def dd_law : He.DefD := ⟨("law", none), "law", "law", defArgs s_law, defBody s_law, defScope s_law, [], []⟩
def fnL0 : List He.DefD := [dd_isname, dd_isnum, dd_iscalc, dd_bodies, dd_ispart, dd_isrow, dd_around, dd_wrong, dd_first, dd_places, dd_sizes, dd_locks, dd_np, dd_prog, dd_begun, dd_next, dd_name, dd_within, dd_refused, dd_right]
def fnL1 : List He.DefD := [dd_spread, dd_heads, dd_law]
def fnL : List He.DefD := fnL0 ++ fnL1
open HH in
def exL0 : List HH.Ex := [fun K => HQ.exB K (He.ga K "NoProgram"), fun K => HQ.inB K (He.ga K "NoProgram"), fun K => HQ.bsB K (He.ga K "YardError"), fun K => He.tupB K "KINDS" [.str "sum", .str "minus", .str "less"], dtB "PARTS" [("put", [.str "name", .str "calc"]), ("read", [.str "name", .str "cell"]), ("write", [.str "cell", .str "calc"]), ("tell", [.str "calc"]), ("send", [.str "channel", .str "calc"]), ("take", [.str "name", .str "channel"]), ("hold", [.str "lock", .str "body"]), ("rest", [.str "rest"]), ("nest", [.str "scope", .str "body"]), ("within", [.str "span", .str "scope", .str "body"]), ("start", [.str "home", .str "body"]), ("off", [.str "entered"]), ("shield", [.str "body"]), ("fail", [.str "name"]), ("catch", [.str "body", .str "name", .str "body"]), ("try", [.str "body", .str "body"]), ("if", [.str "calc", .str "body", .str "body"]), ("often", [.str "times", .str "body"])], dtB "RANGES" [("rest", [.int 0, .int 9]), ("span", [.int 1, .int 9]), ("times", [.int 0, .int 3])], tpB (kwAt ("first_wrong", none) "cells") [], tpB (kwAt ("first_wrong", none) "locks") [], tpB (kwAt ("first_wrong", none) "channels") []]
open HH in
def exL : List HH.Ex := exL0
def tsL0 : List He.Tab := [(fun K => He.ga K "PARTS", ["put", "read", "write", "tell", "send", "take", "hold", "rest", "nest", "within", "start", "off", "shield", "fail", "catch", "try", "if", "often"]), (fun K => He.ga K "RANGES", ["rest", "span", "times"])]
def tsL : List He.Tab := tsL0
def names0 : List PySem.Str := ["LETTERS", "KINDS", "is_name", "is_number", "is_calc", "PARTS", "RANGES", "MOST_DEEP", "MOST_OFTEN", "bodies_of", "is_part", "is_row", "around_in", "wrong_in", "first_wrong", "places_in", "YardError", "NoProgram", "NoPlace", "calc_words"]
def names1 : List PySem.Str := ["row_words", "body_words", "head_words", "LIMIT", "MOST", "MOST_ROWS", "MOST_NAMES", "are_sizes", "are_locks", "row_at", "Program", "_law_begun", "_law_next", "_law_name", "_law_within", "_law_refused", "_law_right", "_law_spread", "_law_heads_right"]
def names : List PySem.Str := names0 ++ names1
abbrev Rw : PySem.W.OpenRow := PySem.W.OpenLaw.row PySem.Challenge.rw_nestyard_k06_rows_at_the_bounds
abbrev qv : PySem.Program := PySem.W.view Rw.prog [45]
abbrev hk : PySem.W.Hook := HH.hookX 5 faL fnL exL tsL
def ob (s : PySem.W.SharedT) : HH.AlX := HH.obsXG 5 faL fnL exL tsL (HandSHeadRun.getT s)
theorem ob_eq (s : PySem.W.SharedT) : ob s = hk.obs s.abs := HH.obsXG_eq (HandSHeadRun.getT_eq s)
set_option maxHeartbeats 0 in
theorem runF (w : World) : HandSHeadRun.RunEq Rw qv hk ob 4000 names (w.withFollow "special-get-raises" false) := by
  intro os
  kernel_rfl
set_option maxHeartbeats 0 in
theorem runT (w : World) : HandSHeadRun.RunEq Rw qv hk ob 4000 names (w.withFollow "special-get-raises" true) := by
  intro os
  kernel_rfl
theorem run (w : World) : HandSHeadRun.RunEq Rw qv hk ob 4000 names w := PySem.W.byRow2 "special-get-raises" runF runT w
theorem facts {w : World} {K : PySem.W.Frag} {h : Heap} {mg : Str → Option Value} {fa : Addr} (X : K.In h) (G : h.Ns mainGlobals mg) (hfa : mg ("law" : Str) = some (.ref fa)) (c : HH.SaysX faL fnL exL tsL w K) :
    ∃ (fd : FuncData) (T : Tp K w mg), Fun K "law" "law" s_law fa fd ∧ ∀ (s : Shared) (v : Value), BindsTo s fd ⟨[v], []⟩ [("_law_script", v)] := by
  obtain ⟨fd_isname, F_isname⟩ := c.def_ 0 (d := dd_isname) rfl
  obtain ⟨fd_isnum, F_isnum⟩ := c.def_ 1 (d := dd_isnum) rfl
  obtain ⟨fd_iscalc, F_iscalc⟩ := c.def_ 2 (d := dd_iscalc) rfl
  obtain ⟨fd_bodies, F_bodies⟩ := c.def_ 3 (d := dd_bodies) rfl
  obtain ⟨fd_ispart, F_ispart⟩ := c.def_ 4 (d := dd_ispart) rfl
  obtain ⟨fd_isrow, F_isrow⟩ := c.def_ 5 (d := dd_isrow) rfl
  obtain ⟨fd_around, F_around⟩ := c.def_ 6 (d := dd_around) rfl
  obtain ⟨fd_wrong, F_wrong⟩ := c.def_ 7 (d := dd_wrong) rfl
  obtain ⟨fd_first, F_first⟩ := c.def_ 8 (d := dd_first) rfl
  obtain ⟨fd_places, F_places⟩ := c.def_ 9 (d := dd_places) rfl
  obtain ⟨fd_sizes, F_sizes⟩ := c.def_ 10 (d := dd_sizes) rfl
  obtain ⟨fd_locks, F_locks⟩ := c.def_ 11 (d := dd_locks) rfl
  obtain ⟨fd_np, F_np⟩ := c.def_ 12 (d := dd_np) rfl
  obtain ⟨fd_prog, F_prog⟩ := c.def_ 13 (d := dd_prog) rfl
  obtain ⟨fd_begun, F_begun⟩ := c.def_ 14 (d := dd_begun) rfl
  obtain ⟨fd_next, F_next⟩ := c.def_ 15 (d := dd_next) rfl
  obtain ⟨fd_name, F_name⟩ := c.def_ 16 (d := dd_name) rfl
  obtain ⟨fd_within, F_within⟩ := c.def_ 17 (d := dd_within) rfl
  obtain ⟨fd_refused, F_refused⟩ := c.def_ 18 (d := dd_refused) rfl
  obtain ⟨fd_right, F_right⟩ := c.def_ 19 (d := dd_right) rfl
  obtain ⟨fd_spread, F_spread⟩ := c.def_ 20 (d := dd_spread) rfl
  obtain ⟨fd_heads, F_heads⟩ := c.def_ 21 (d := dd_heads) rfl
  obtain ⟨fd_law, F_law⟩ := c.def_ 22 (d := dd_law) rfl
  have e := hfa.symm.trans (He.glo_ok X G (c.fact 22 (f := .glo "law") rfl))
  cases e
  have bl := FunD.bindsA (ps := ["_law_script"]) F_law fun _ _ _ _ _ _ us hl => match us, hl with | [_], _ => rfl
  exact ⟨fd_law, { C_YardError := He.ga K "YardError", gC_YardError := He.glo_ok X G (c.fact 34 (f := .glo "YardError") rfl), bs_YardError := HQ.bsB_ok (c.ex_ 2 rfl), C_NoProgram := He.ga K "NoProgram", gC_NoProgram := He.glo_ok X G (c.fact 23 (f := .glo "NoProgram") rfl), x_NoProgram := (HQ.exB_ok (c.ex_ 0 rfl)).1, xf_NoProgram := (HQ.exB_ok (c.ex_ 0 rfl)).2, ee_NoProgram := He.exm_ok (c.fact 24 (f := .exm "NoProgram" "NoProgram" true) rfl), na_NoProgram_place := He.noat_ok (c.fact 25 (f := .noat "NoProgram" "place") rfl), C_Program := He.ga K "Program", gC_Program := He.glo_ok X G (c.fact 26 (f := .glo "Program") rfl), cl_Program := He.cls_ok (c.fact 27 (f := .cls "Program") rfl), na_Program_spots := He.noat_ok (c.fact 29 (f := .noat "Program" "spots") rfl), na_Program_tree := He.noat_ok (c.fact 30 (f := .noat "Program" "tree") rfl), na_Program_first := He.noat_ok (c.fact 31 (f := .noat "Program" "first") rfl), na_Program_bolts := He.noat_ok (c.fact 32 (f := .noat "Program" "bolts") rfl), na_Program_widths := He.noat_ok (c.fact 33 (f := .noat "Program" "widths") rfl), f_isname := _, fd_isname := fd_isname, D_isname := ⟨HH.funOf F_isname, (FunD.bindsN (ps := ["thing"]) F_isname fun _ _ _ _ _ _ us hl => match us, hl with | [_], _ => rfl), He.glo_ok X G (c.fact 0 (f := .glo "is_name") rfl)⟩, f_isnum := _, fd_isnum := fd_isnum, D_isnum := ⟨HH.funOf F_isnum, (FunD.bindsN (ps := ["thing"]) F_isnum fun _ _ _ _ _ _ us hl => match us, hl with | [_], _ => rfl), He.glo_ok X G (c.fact 1 (f := .glo "is_number") rfl)⟩, f_iscalc := _, fd_iscalc := fd_iscalc, D_iscalc := ⟨HH.funOf F_iscalc, (FunD.bindsN (ps := ["thing"]) F_iscalc fun _ _ _ _ _ _ us hl => match us, hl with | [_], _ => rfl), He.glo_ok X G (c.fact 2 (f := .glo "is_calc") rfl)⟩, f_bodies := _, fd_bodies := fd_bodies, D_bodies := ⟨HH.funOf F_bodies, (FunD.bindsN (ps := ["row"]) F_bodies fun _ _ _ _ _ _ us hl => match us, hl with | [_], _ => rfl), He.glo_ok X G (c.fact 3 (f := .glo "bodies_of") rfl)⟩, f_ispart := _, fd_ispart := fd_ispart, D_ispart := ⟨HH.funOf F_ispart, (FunD.bindsN (ps := ["kind", "thing", "known", "around"]) F_ispart fun _ _ _ _ _ _ us hl => match us, hl with | [_, _, _, _], _ => rfl), He.glo_ok X G (c.fact 4 (f := .glo "is_part") rfl)⟩, f_isrow := _, fd_isrow := fd_isrow, D_isrow := ⟨HH.funOf F_isrow, (FunD.bindsN (ps := ["row", "known", "around"]) F_isrow fun _ _ _ _ _ _ us hl => match us, hl with | [_, _, _], _ => rfl), He.glo_ok X G (c.fact 5 (f := .glo "is_row") rfl)⟩, f_around := _, fd_around := fd_around, D_around := ⟨HH.funOf F_around, (FunD.bindsN (ps := ["row", "around"]) F_around fun _ _ _ _ _ _ us hl => match us, hl with | [_, _], _ => rfl), He.glo_ok X G (c.fact 6 (f := .glo "around_in") rfl)⟩, f_wrong := _, fd_wrong := fd_wrong, D_wrong := ⟨HH.funOf F_wrong, (FunD.bindsN (ps := ["body", "place", "known", "around", "oftens"]) F_wrong fun _ _ _ _ _ _ us hl => match us, hl with | [_, _, _, _, _], _ => rfl), He.glo_ok X G (c.fact 7 (f := .glo "wrong_in") rfl)⟩, f_first := _, fd_first := fd_first, dv_first_cells := HH.kwAt ("first_wrong", none) "cells" K, dt_first_cells := fun H => HH.tpB_ok (c.ex_ 6 rfl) H, dv_first_locks := HH.kwAt ("first_wrong", none) "locks" K, dt_first_locks := fun H => HH.tpB_ok (c.ex_ 7 rfl) H, dv_first_channels := HH.kwAt ("first_wrong", none) "channels" K, dt_first_channels := fun H => HH.tpB_ok (c.ex_ 8 rfl) H, D_first := F_first, g_first := He.glo_ok X G (c.fact 8 (f := .glo "first_wrong") rfl), f_places := _, fd_places := fd_places, D_places := ⟨HH.funOf F_places, (FunD.bindsN (ps := ["body", "place"]) F_places fun _ _ _ _ _ _ us hl => match us, hl with | [_, _], _ => rfl), He.glo_ok X G (c.fact 9 (f := .glo "places_in") rfl)⟩, f_sizes := _, fd_sizes := fd_sizes, D_sizes := ⟨HH.funOf F_sizes, (FunD.bindsN (ps := ["thing", "least", "most"]) F_sizes fun _ _ _ _ _ _ us hl => match us, hl with | [_, _, _], _ => rfl), He.glo_ok X G (c.fact 10 (f := .glo "are_sizes") rfl)⟩, f_locks := _, fd_locks := fd_locks, D_locks := ⟨HH.funOf F_locks, (FunD.bindsN (ps := ["thing"]) F_locks fun _ _ _ _ _ _ us hl => match us, hl with | [_], _ => rfl), He.glo_ok X G (c.fact 11 (f := .glo "are_locks") rfl)⟩, f_np := _, fd_np := fd_np, D_np := HH.funOf F_np, b_np := (FunD.bindsN (ps := ["self", "place"]) F_np fun _ _ _ _ _ _ us hl => match us, hl with | [_, _], _ => rfl), m_np := He.meth_ok (c.fact 12 (f := .meth "NoProgram" "__init__") rfl), i_NoProgram := (HQ.inB_ok (c.ex_ 1 rfl)).1, ti_NoProgram := (HQ.inB_ok (c.ex_ 1 rfl)).2, f_prog := _, fd_prog := fd_prog, D_prog := F_prog, m_prog := He.meth_ok (c.fact 13 (f := .meth "Program" "__init__") rfl), mk_Program := He.mkr_ok (c.fact 28 (f := .mkr "Program") rfl), f_begun := _, fd_begun := fd_begun, D_begun := ⟨HH.funOf F_begun, (FunD.bindsN (ps := ["_law_script"]) F_begun fun _ _ _ _ _ _ us hl => match us, hl with | [_], _ => rfl), He.glo_ok X G (c.fact 14 (f := .glo "_law_begun") rfl)⟩, f_next := _, fd_next := fd_next, D_next := ⟨HH.funOf F_next, (FunD.bindsN (ps := ["_law_draw", "_law_size"]) F_next fun _ _ _ _ _ _ us hl => match us, hl with | [_, _], _ => rfl), He.glo_ok X G (c.fact 15 (f := .glo "_law_next") rfl)⟩, f_name := _, fd_name := fd_name, D_name := ⟨HH.funOf F_name, (FunD.bindsN (ps := ["_law_draw"]) F_name fun _ _ _ _ _ _ us hl => match us, hl with | [_], _ => rfl), He.glo_ok X G (c.fact 16 (f := .glo "_law_name") rfl)⟩, f_within := _, fd_within := fd_within, D_within := ⟨HH.funOf F_within, (FunD.bindsN (ps := ["_law_draw", "_law_row", "_law_many", "_law_name_here"]) F_within fun _ _ _ _ _ _ us hl => match us, hl with | [_, _, _, _], _ => rfl), He.glo_ok X G (c.fact 17 (f := .glo "_law_within") rfl)⟩, f_refused := _, fd_refused := fd_refused, D_refused := ⟨HH.funOf F_refused, (FunD.bindsN (ps := ["_law_rows", "_law_cells_told", "_law_locks_told", "_law_lanes_told"]) F_refused fun _ _ _ _ _ _ us hl => match us, hl with | [_, _, _, _], _ => rfl), He.glo_ok X G (c.fact 18 (f := .glo "_law_refused") rfl)⟩, f_right := _, fd_right := fd_right, D_right := ⟨HH.funOf F_right, (FunD.bindsN (ps := ["_law_rows", "_law_due"]) F_right fun _ _ _ _ _ _ us hl => match us, hl with | [_, _], _ => rfl), He.glo_ok X G (c.fact 19 (f := .glo "_law_right") rfl)⟩, f_spread := _, fd_spread := fd_spread, D_spread := ⟨HH.funOf F_spread, (FunD.bindsN (ps := ["_law_draw", "_law_many"]) F_spread fun _ _ _ _ _ _ us hl => match us, hl with | [_, _], _ => rfl), He.glo_ok X G (c.fact 20 (f := .glo "_law_spread") rfl)⟩, f_heads := _, fd_heads := fd_heads, D_heads := ⟨HH.funOf F_heads, (FunD.bindsN (ps := ["_law_draw", "_law_word"]) F_heads fun _ _ _ _ _ _ us hl => match us, hl with | [_, _], _ => rfl), He.glo_ok X G (c.fact 21 (f := .glo "_law_heads_right") rfl)⟩, c_LETTERS := He.str_ok X G (c.fact 35 (f := .str "LETTERS" "abcdefghijklmnopqrstuvwxyz") rfl), a_KINDS := He.ga K "KINDS", c_KINDS := He.glo_ok X G (c.fact 36 (f := .glo "KINDS") rfl), t_KINDS := fun H => He.tupB_ok (c.ex_ 3 rfl) H, a_PARTS := He.ga K "PARTS", c_PARTS := He.glo_ok X G (c.fact 37 (f := .glo "PARTS") rfl), d_PARTS := HH.DT.of (c.ex_ 4 rfl) (c.dic 0 rfl) rfl, a_RANGES := He.ga K "RANGES", c_RANGES := He.glo_ok X G (c.fact 38 (f := .glo "RANGES") rfl), d_RANGES := HH.DT.of (c.ex_ 5 rfl) (c.dic 1 rfl) rfl, c_MOST_DEEP := He.int_ok X G (c.fact 39 (f := .int "MOST_DEEP" 9) rfl), c_MOST_OFTEN := He.int_ok X G (c.fact 40 (f := .int "MOST_OFTEN" 2) rfl), c_LIMIT := He.int_ok X G (c.fact 41 (f := .int "LIMIT" 400) rfl), c_MOST := He.int_ok X G (c.fact 42 (f := .int "MOST" 3000) rfl), c_MOST_ROWS := He.int_ok X G (c.fact 43 (f := .int "MOST_ROWS" 60) rfl), c_MOST_NAMES := He.int_ok X G (c.fact 44 (f := .int "MOST_NAMES" 4) rfl), all := He.free_ok X G (c.fact 45 (f := .free "all") rfl), bool := He.free_ok X G (c.fact 46 (f := .free "bool") rfl), dict := He.free_ok X G (c.fact 47 (f := .free "dict") rfl), enumerate := He.free_ok X G (c.fact 48 (f := .free "enumerate") rfl), int := He.free_ok X G (c.fact 49 (f := .free "int") rfl), isinstance := He.free_ok X G (c.fact 50 (f := .free "isinstance") rfl), len := He.free_ok X G (c.fact 51 (f := .free "len") rfl), list := He.free_ok X G (c.fact 52 (f := .free "list") rfl), min := He.free_ok X G (c.fact 53 (f := .free "min") rfl), range := He.free_ok X G (c.fact 54 (f := .free "range") rfl), repr := He.free_ok X G (c.fact 55 (f := .free "repr") rfl), set := He.free_ok X G (c.fact 56 (f := .free "set") rfl), sorted := He.free_ok X G (c.fact 57 (f := .free "sorted") rfl), str := He.free_ok X G (c.fact 58 (f := .free "str") rfl), tuple := He.free_ok X G (c.fact 59 (f := .free "tuple") rfl), zip := He.free_ok X G (c.fact 60 (f := .free "zip") rfl) }, HH.funOf F_law, fun s v => bl s [v] rfl⟩
end T06
open PySem PySem.W PySem.Calls PyProof.Rows
set_option maxRecDepth 100000 in
set_option maxHeartbeats 0 in
theorem PySem.Challenge.cw_nestyard_k06_rows_at_the_bounds_holds : PySem.Challenge.rw_nestyard_k06_rows_at_the_bounds.Holds := by
  w_on; o_law
  refine HandSHeadRun.head_any (r := OpenLaw.row PySem.Challenge.rw_nestyard_k06_rows_at_the_bounds) (q := T06.qv) (H := T06.hk) (ob := T06.ob) (M := 4000) (loose := T06.names) (d := HandSHeadRun.topDef (OpenLaw.row PySem.Challenge.rw_nestyard_k06_rows_at_the_bounds).prog 45) (kwd := []) T06.ob_eq
    (by kernel_rfl) (fun s => by kernel_rfl) T06.run (by kernel_rfl) (by kernel_rfl) (by kernel_rfl) (by rfl) (by first | assumption | decide +kernel) (by decide +kernel) ⟨rfl, rfl, rfl, rfl, rfl, by decide +kernel⟩ ?hw ?hc
  case hw => w_witness2
  case hc =>
    refine HH.walk_ofX (l := PySem.Challenge.rw_nestyard_k06_rows_at_the_bounds) (n := 63) (k := 71) (x := "_law_script") (CX := L2.CX0) rfl (by decide) (by kernel_rfl) ⟨rfl, by decide, by decide⟩ ?F (fun _ _ _ _ z => z)
    intro w mg fa h Y G hmg0
    obtain ⟨K, KX, c⟩ := Y
    have hmg : mg ("law" : PySem.Str) = some (.ref fa) := by
      have e : (HandSHeadRun.topDef (OpenLaw.row PySem.Challenge.rw_nestyard_k06_rows_at_the_bounds).prog 45).name = ("law" : PySem.Str) := by kernel_rfl
      rw [← e]
      exact hmg0
    obtain ⟨fd, T, F, hb⟩ := T06.facts KX G hmg c
    exact ⟨K, fd, T06.spLaw K, KX, hb, fun H a ns hl _ hS => ⟨a, ns, rfl, hS, hl, fun _ => rfl⟩, fun base _ _ => T06.ok_law F T⟩
