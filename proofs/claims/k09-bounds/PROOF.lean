import PyProof.Rows.All
import Wide.All
import OpenK.AllK
import Wide.FinOn
import KE.KUnpackStar
import HandS.ForMost
import KE.SortData
import KE.KDictPairs
import PyProof.DictUpdate
import HandS.NoneIn
import PyProof.StrOps2
import PyProof.ReprReads
import PyProof.Rows.NestShow
import HandS.IsInst
import HandS.Flow
import HandS.Style
import HandS.Walk
import HandS.Evl
import HandS.Wide
import HandS.DictComp
import PyProof.SumAny
import HandS.Defaults
import HandS.More
import HandS.Head0
import HandS.Head1
import HandS.Head2
import HandS.HeadEnd
import HandS.HeadHook1
import HandS.HeadHook2
import HandS.HeadHook3
import KE.GoesMore
import KE.GoesZip
import HandS.Zip
import PyProof.Rows.SeqMore
import HandS.Strs
import HandS.ExcInit
import HandS.ExcField
import HandS.ExcOwn
import HandS.MakeKwOnly
import HandS.WordsExc
import PyProof.CallStr
import HandS.RaiseMore
import PyProof.MeetsIn
import HandS.Deep
import HandS.ExcIs
import PyProof.InstNe
import KE.KEqNest
import PyProof.NeKinds
import PyProof.EqAt
import KE.SortCalls
import HandS.SetKeys
import PyProof.SetRoads
import PyProof.WalksMore
import HandS.TupMul
import PyProof.ReprBulk
import HandS.Codes
import HandS.ListItems
import PySem.Challenge.RW_nestyard_k09_lone_at_the_bounds
set_option Elab.async false
set_option linter.all false
set_option maxRecDepth 100000
set_option maxHeartbeats 4000000
set_option autoImplicit false
/-! Own rules over the hand layer: targets with a star. -/
namespace HX
open PySem PySem.Spec PySem.Calls PyProof.Rows L2
section
variable {prog : Program} {w : World} {A : Around} {E : Value → Shared → Prop} {s : Shared}
/-- the items of a tuple over n targets of which the i-th has a star -/
theorem star_run {t : Addr} {its : Array Value} {n i : Nat} {Q : List Value → Shared → Prop} (ht : IsTup s.heap t its) (hh : A.handled = none) (hi : i < n) (hn : n ≤ its.size + 1) (hz : its.size ≤ 16384)
    (q : ∀ (g : Heap) (tk : Nat), (∀ b o, s.heap.get? b = some o → g.get? b = some o) →
      Q (its.toList.take i ++ [.ref g.objs.size] ++ (its.toList.drop i).drop (its.size + 1 - n)) { s with heap := g.push { cls := .type "list", data := .seq ((its.toList.drop i).take (its.size + 1 - n)).toArray }, toks := tk }) :
    wpAny (model prog w) A (unpackItems (.ref t) n (some i)) Q E s := by
  have tlt : t < s.heap.objs.size := ht.lt
  have tne : t ≠ s.heap.objs.size := Nat.ne_of_lt tlt
  have lens : (its.toList.take i).length = i ∧ (its.toList.drop i).length = its.size - i := by
    refine ⟨?_, ?_⟩
    · rw [List.length_take, Array.length_toList]; omega
    · rw [List.length_drop, Array.length_toList]
  unfold unpackItems
  apply wpAny_bind
  unfold notIterableAtAll
  apply wpAny_bind
  refine wpAny_specialOf ht.typeIs slot_tuple_iter.lookup (wpAny_pure ?_)
  simp only [Bool.false_eq_true, if_false]
  apply wpAny_bind
  refine wpAny_holding (iter_tuple ht ?_)
  apply wpAny_bind
  refine wpAny_holding (draw_tuple tne i 0 _ _ ⟨_, Heap.get?_push_size _ rfl, rfl, rfl⟩ (ht.push _) (by omega) fun g1 it1 sb => ?_)
  have ht1 : IsTup g1 t its := (ht.push _).extBut sb.extBut tne
  rw [Nat.zero_add] at it1
  obtain ⟨oi, eoi, _⟩ := id it1
  rw [List.drop_zero, if_neg (show ¬ ((its.toList.take i).length < i) by rw [lens.1]; exact Nat.lt_irrefl _)]
  apply wpAny_bind
  refine wpAny_holding (PySem.W.kun_collect (s := { s with heap := g1 }) (T := "tuple_iterator") (.inr (.inr (.inr rfl))) (Walks.tuple (A := A.in1) hh s.heap.objs.size t tne its) (fun j u st => st.1.typeIs) (k := i) (by omega) ⟨it1, ht1⟩ (Heap.lt_size eoi) ht1.lt (fun g2 tk kp => ?_) (by rw [sizeLine_eq]; omega))
  have mid : (its.toList.drop i).length - (n - 1 - i) = its.size + 1 - n := by rw [lens.2]; omega
  have enough : ¬ ((its.toList.drop i).length < n - 1 - i) := by rw [lens.2]; omega
  show wpAny _ _ (if (its.toList.drop i).length < n - 1 - i then _ else _) _ _ _
  rw [if_neg enough]
  show wpAny _ _ (newList ((its.toList.drop i).take ((its.toList.drop i).length - (n - 1 - i))) >>= fun d => pure (its.toList.take i ++ [d] ++ (its.toList.drop i).drop ((its.toList.drop i).length - (n - 1 - i)))) _ _ _
  rw [mid]
  apply wpAny_bind
  refine wpAny_newList (wpAny_pure ?_) (by rw [List.length_take, lens.2, sizeLine_eq]; omega)
  exact q g2 tk fun b o e => kp b o (Nat.ne_of_lt (Heap.lt_size e)) (sb.extBut b o (Nat.ne_of_lt (Heap.lt_size e)) (Heap.get?_push_of_some _ e))
end
/-- (a, *b, c) = a tuple: the starred one is a new list -/
def gStar (K : PySem.W.Frag) (n i : Nat) (t : TGs) : TG := fun v σ H Q => ∃ a xs, v = .ref a ∧ SqT K H a xs ∧ n ≤ xs.length + 1 ∧ xs.length ≤ 16384 ∧
  ∀ p, H p = none → t (xs.take i ++ [.ref p] ++ (xs.drop i).drop (xs.length + 1 - n)) σ (upd H p (.lst ((xs.drop i).take (xs.length + 1 - n)))) Q
section
variable {X : Cx}
theorem pgs_star {e : Expr} {es : List Expr} {t : TG} {u : TGs} {p : Pos} (h1 : PG X e t) (h2 : PGs X es u) : PGs X (.Starred e p :: es) (gCons t u) := by
  constructor
  intro pins s σ H vs us Q I r h
  obtain ⟨v, vr, rfl, h⟩ := h
  cases r with
  | cons r rr =>
    show wpAny _ _ (assignInOrder (assign e X.env :: (assignEach es X.env).map (·.2)) _) _ _ _
    exact assignInOrder_cons (thn (h1.run pins s σ H _ _ _ I r h) fun _ s1 ⟨σ1, H1, I1, q1⟩ => h2.run pins s1 σ1 H1 _ _ Q I1 rr q1)
theorem pg_star {es : List Expr} {k : Nat} {t : TGs} {n i : Nat} {pos : Pos} (hc : X.calm = true) (h : PGs X es t)
    (hn : (assignEach es X.env).length = n := by rfl) (hst : (assignEach es X.env).findIdx? (·.1) = some i := by rfl) (hi : i < n := by decide) : PG X (.Tuple es k pos) (gStar X.K n i t) := by
  refine ⟨fun pins s σ H v u Q I r hw => ?_⟩
  obtain ⟨a, xs, e1, hq, hl, hz, hw⟩ := hw
  subst e1
  cases r
  obtain ⟨its, rv, ht, _⟩ := I.tuple hq
  have el : its.length = xs.length := rv.length.symm
  rw [assign_Tuple]
  refine wpAny_bind (wpAny_standAt ?_)
  unfold unpack
  rw [hn, hst]
  refine wpAny_bind (wpAny_holding (star_run ht (I.ok.hd hc) hi (by rw [List.size_toArray, el]; exact hl) (by rw [List.size_toArray, el]; exact hz) fun g tk kp => ?_))
  simp only [List.size_toArray, el]
  have I1 : Inv X pins σ H { s with heap := g, toks := tk } := I.kept kp
  have I2 : Inv X pins σ (upd H g.objs.size (.lst ((xs.drop i).take (xs.length + 1 - n)))) { s with heap := g.push { cls := .type "list", data := .seq ((its.drop i).take (xs.length + 1 - n)).toArray }, toks := tk } :=
    I1.laid (t' := tk) (fun b o q => Heap.get?_push_of_some _ q) (Nat.le_refl _)
      ⟨Nat.le_trans (Nat.le_trans (List.length_take_le' _ _) (by rw [List.length_drop]; exact Nat.sub_le _ _)) (Nat.le_trans hz (by rw [sizeLine_eq]; omega)), _, 0, (rv.drop i).take _, Heap.get?_push_size _ rfl⟩
  exact h.run pins _ σ _ _ _ Q I2 (((rv.take i).append (show Vals [V.ref g.objs.size] [Value.ref g.objs.size] from .cons rfl .nil)).append ((rv.drop i).drop _)) (hw _ (I1.hok.fresh (Nat.le_refl _)))
end
end HX
/-! Own rules over the hand layer: sorted of data; dict of a tuple of pairs; update by a dict; a tuple whose object is plain. -/
namespace HX
open PySem PySem.Spec PySem.Calls PyProof.Rows L2
open PySem.W (EachIs)
section
variable {K : PySem.W.Frag} {H H' : Hp}
theorem dpAll_len : ∀ {xs : List V} {ds : List PyData}, DpAll K H xs ds → xs.length = ds.length
  | _, _, .nil => rfl
  | _, _, .cons _ t => congrArg (· + 1) (dpAll_len t)
theorem each_len {α β : Type} {R : α → β → Prop} : ∀ {as : List α} {bs : List β}, EachIs R as bs → as.length = bs.length
  | _, _, .nil => rfl
  | _, _, .cons _ t => congrArg (· + 1) (each_len t)
theorem each_of_vals : ∀ {xs : List V} {us : List Value} {ds : List PyData}, Vals xs us → xs.length = ds.length → EachIs (fun (u : Value) (b : V × PyData) => RelV b.1 u) us (xs.zip ds)
  | _, _, [], r, h => by
    cases r with
    | nil => exact .nil
    | cons _ _ => cases h
  | _, _, d :: ds, r, h => by
    cases r with
    | nil => cases h
    | cons r t => exact .cons r (each_of_vals t (Nat.succ.inj h))
theorem vals_of_each : ∀ {us : List Value} {bs : List (V × PyData)}, EachIs (fun (u : Value) (b : V × PyData) => RelV b.1 u) us bs → Vals (bs.map (·.1)) us
  | _, _, .nil => .nil
  | _, _, .cons r t => .cons r (vals_of_each t)
theorem zip_snd : ∀ {xs : List V} {ds : List PyData}, xs.length = ds.length → (xs.zip ds).map (·.2) = ds
  | [], [], _ => rfl
  | x :: xs, d :: ds, h => by
    rw [List.zip_cons_cons, List.map_cons, zip_snd (Nat.succ.inj h)]
/-- the items, sorted by the data that they are -/
def sortD (xs : List V) (ds : List PyData) : List V := ((xs.zip ds).mergeSort (PySem.W.dataLe false (·.2))).map (·.1)
theorem sortD_perm {xs : List V} {ds : List PyData} (h : xs.length = ds.length) : (sortD xs ds).Perm xs := by
  have h1 := (List.mergeSort_perm (xs.zip ds) (PySem.W.dataLe false (·.2))).map (·.1)
  rwa [List.map_fst_zip (Nat.le_of_eq h)] at h1
def rSortD (K : PySem.W.Frag) : List V → Hp → VK → Prop := fun vs H Q => ∃ (a : Addr) (xs : List V) (ds : List PyData), vs = [V.ref a] ∧ SqL K H a xs ∧ DpAll K H xs ds ∧ PySem.W.AllAlike ds ∧ PySem.W.Sortable ds ∧ (∀ d ∈ ds, d.depth ≤ 60) ∧
  ∀ p, H p = none → Q (.ref p) (upd H p (.lst (sortD xs ds)))
end
section
variable {X : Cx} {pins : List (Addr × Obj)} {σ : L2.St} {H : Hp} {s : Shared}
theorem reads_each (I : Inv X pins σ H s) : ∀ {xs : List V} {us : List Value} {ds : List PyData}, Vals xs us → DpAll X.K H xs ds → EachIs (fun (u : Value) (b : V × PyData) => ∃ as, Reads s.heap u b.2 as) us (xs.zip ds)
  | _, _, _, .nil, .nil => .nil
  | _, _, _, .cons r t, .cons h k => .cons (Dp.reads I _ _ _ h r) (reads_each I t k)
theorem cr_sortD (hu : X.A.units + 64 < cLine) : CallR X (.builtin "sorted") (rSortD X.K) := by
  intro pins s σ H vs us Q I r h
  obtain ⟨a, xs, ds, rfl, hs, hd, hal, hk, hdep, q⟩ := h
  obtain ⟨its, rv, hl, hz⟩ := I.list hs
  rw [Vals.ref1 r]
  have el := dpAll_len hd
  have ez : (xs.zip ds).length = xs.length := by rw [List.length_zip, el, Nat.min_self]
  have e2 : (xs.zip ds).map (fun b : V × PyData => b.2) = ds := zip_snd el
  refine PySem.W.sorted_data (enc := fun b : V × PyData => b.2) hl.isList (each_of_vals rv el) (reads_each I rv hd) (by rw [e2]; exact hal) (by rw [e2]; exact hk) (by rw [ez]; exact hz) (fun b hb => ?_) fun out ho eo => ?_
  · have hb2 : b.2 ∈ ds := by rw [← e2]; exact List.mem_map.mpr ⟨b, hb, rfl⟩
    have := hdep _ hb2
    omega
  · obtain ⟨c, he⟩ := PyProof.Rows.sortedAll_at s.heap its out.toArray
    have hlen : (sortD xs ds).length ≤ sizeLine := by rw [(sortD_perm el).length_eq]; exact hz
    exact ⟨.ref _, upd H (s.heap.objs.size + 1) (.lst (sortD xs ds)), I.laid (t' := s.toks) (fun _ _ => PyProof.Rows.sortedAll_old) (Nat.le_succ _) ⟨hlen, out, c, vals_of_each eo, he⟩, rfl, q _ (I.hok.fresh (Nat.le_succ _))⟩
/-- tuple(list): its object has no dict of its own -/
def rTupP (K : PySem.W.Frag) : List V → Hp → VK → Prop := fun vs H Q => ∃ (a : Addr) (xs : List V), vs = [V.ref a] ∧ SqL K H a xs ∧ ∀ (p : Addr) (o : Obj), H p = none → o.dict = none → Q (.ref p) (upd H p (.frz o (.tup xs)))
theorem call_tupP : CallR X (.type "tuple") (rTupP X.K) := by
  intro pins s σ H vs us Q I r h
  obtain ⟨a, xs, rfl, hs, q⟩ := h
  obtain ⟨its, rv, hl, hz⟩ := I.list hs
  rw [Vals.ref1 r]
  have el := rv.length
  refine call_tuple_list hl.isList (fun g kp => ?_) (by rw [List.size_toArray, ← el]; exact hz)
  have I1 : Inv X pins σ H { s with heap := g } := I.kept (t' := s.toks) kp
  have e : (g.push { cls := .type "tuple", data := .seq its.toArray }).get? g.objs.size = some { cls := .type "tuple", data := .seq its.toArray } := Heap.get?_push_size _ rfl
  exact ⟨.ref g.objs.size, _, I1.laid (t' := s.toks) (fun _ _ k => Heap.get?_push_of_some _ k) (Nat.le_refl _) (show ObjOk X.prog X.w _ _ _ (.frz _ (.tup xs)) from ⟨e, hz, its, rv, _, e, rfl, _, rfl⟩), rfl, q _ _ (I1.hok.fresh (Nat.le_refl _)) rfl⟩
end
end HX
namespace HX
open PySem PySem.Spec PySem.Calls PyProof.Rows L2
open PySem.W (EachIs)
section
variable {X : Cx} {pins : List (Addr × Obj)} {σ : L2.St} {H : Hp} {s : Shared}
theorem pairs_v (I : Inv X pins σ H s) : ∀ {ps : List Addr} {kvs : List (Key × V)}, Paired (fun p kv => SqT X.K H p [kV kv.1, kv.2]) ps kvs →
    ∃ (prs : List (Key × Value)) (rs : List (Value × Value)), KV kvs prs ∧ prs.length = ps.length ∧ rs.length = ps.length ∧
      ∀ (j : Nat) (k v : Value), rs[j]? = some (k, v) → ∃ (b : Addr) (key : Key), ps[j]? = some b ∧ IsTup s.heap b #[k, v] ∧ prs[j]? = some (key, v) ∧ keyIs key k = true
  | _, _, .nil => ⟨[], [], .nil, rfl, rfl, fun j k v e => by simp at e⟩
  | _, _, .cons (a := p) (b := kv) h t => by
    obtain ⟨prs, rs, r, l1, l2, hp⟩ := pairs_v I t
    obtain ⟨its, rv, ht, _⟩ := I.tuple h
    obtain ⟨u, y, ei, ru, ry⟩ := vals2 rv
    subst ei
    refine ⟨(kv.1, y) :: prs, (u, y) :: rs, .cons ⟨rfl, ry⟩ r, congrArg (· + 1) l1, congrArg (· + 1) l2, fun j k v e => ?_⟩
    cases j with
    | zero =>
      obtain ⟨rfl, rfl⟩ := Prod.mk.inj (Option.some.inj e)
      exact ⟨p, kv.1, rfl, ht, rfl, kV_is (P := X.prog) (w := X.w) ru⟩
    | succ j => exact hp j k v e
/-- dict(t), t a plain tuple of pairs -/
def rDictT (K : PySem.W.Frag) : List V → Hp → VK → Prop := fun vs H Q => ∃ (a : Addr) (o : Obj) (ps : List Addr) (kvs : List (Key × V)), vs = [.ref a] ∧ H a = some (.frz o (.tup (ps.map V.ref))) ∧ o.dict = none ∧ Paired (fun p kv => SqT K H p [kV kv.1, kv.2]) ps kvs ∧
  ∀ p, H p = none → Q (.ref p) (upd H p (.dK (mergeK [] kvs)))
theorem call_dictT (hcalm : X.calm = true) : CallR X (.type "dict") (rDictT X.K) := by
  intro pins s σ H vs us Q I r h
  obtain ⟨a, o, ps, kvs, rfl, ha, od, hp, q⟩ := h
  rw [Vals.ref1 r]
  obtain ⟨ho, hz, its, rv, o2, ho2, hc, n, hd⟩ := (show ObjOk X.prog X.w H s.heap a (.frz o (.tup (ps.map V.ref))) from I.hok a _ ha)
  rw [ho] at ho2
  cases ho2
  have ei := refs_at rv
  subst ei
  rw [List.length_map] at hz
  obtain ⟨prs, rs, rel, l1, l2, hq⟩ := pairs_v I hp
  refine PySem.call_dict_pairs (knd := mixKind X.prog X.w) (kvs := prs) (PairArg.tuple a (ps.map Value.ref).toArray (fun j => ps[j]?.getD 0) rs) (I.ok.hd hcalm) ⟨⟨o, n, ho, hc, od, hd⟩, by simp [l2], fun j k v e => ?_⟩ ⟨by rw [l1, l2], fun i k v e => ?_⟩ (by rw [l2]; exact hz) fun h' tk hd' kp => ?_
  · obtain ⟨b, key, e1, e2, _⟩ := hq j k v e
    have e5 : s.heap.IsTuple b #[k, v] := e2
    exact ⟨by simp [e1], .inl (by simpa [e1] using e5)⟩
  · obtain ⟨b, key, e1, e2, e3, e4⟩ := hq i k v e
    exact ⟨key, e3, e4⟩
  · have hm : (s.heap.objs.size == sysModules) = false := beq_eq_false_iff_ne.mpr (Nat.ne_of_gt I.big)
    have hlen : (mergeK [] kvs).length ≤ sizeLine := by
      refine Nat.le_trans (length_mergeK kvs []) ?_
      rw [List.length_nil, Nat.zero_add, rel.length, l1]
      exact hz
    exact ⟨.ref s.heap.objs.size, upd H s.heap.objs.size (.dK (mergeK [] kvs)), I.laid (t' := tk) (fun b o e => kp b o (by simp) e) (Nat.le_refl _) (show ObjOk X.prog X.w _ _ _ (.dK (mergeK [] kvs)) from ⟨hlen, hm, merged [] prs, KV.merge rel .nil, hd'⟩), rfl, q _ (I.hok.fresh (Nat.le_refl _))⟩
end
end HX
/-! Own rules: dict(d), text * number. -/
namespace HX
open PySem PySem.Spec PySem.Calls PyProof.Rows L2
section
variable {X : Cx}
/-- dict(d): a new dict of the same pairs -/
def rDictC : List V → Hp → VK → Prop := fun vs H Q => ∃ (a : Addr) (kvs : List (Key × V)), vs = [.ref a] ∧ Rd H a (.dK kvs) ∧ ∀ p, H p = none → Q (.ref p) (upd H p (.dK kvs))
theorem call_dictC : CallR X (.type "dict") rDictC := by
  intro pins s σ H vs us Q I r h
  obtain ⟨a, kvs, rfl, e, q⟩ := h
  rw [Vals.ref1 r]
  exact d_copyOf I e fun p s' hp I' => ⟨.ref p, _, I', rfl, q p hp⟩
/-- a text so many times -/
def times (x : Str) (n : Nat) : Str := ⟨((List.replicate n x.cps.toList).flatten).toArray⟩
theorem times_len (x : Str) (n : Nat) : (times x n).length = n * x.length := by
  show (List.flatten _).toArray.size = n * x.cps.size
  rw [List.size_toArray, List.length_flatten, List.map_replicate, List.sum_replicate_nat, Array.length_toList]
theorem fold_rep (c : Array Nat) : ∀ (n : Nat) (acc : Array Nat), ((List.replicate n c).foldl (· ++ ·) acc).toList = acc.toList ++ (List.replicate n c.toList).flatten
  | 0, acc => by simp
  | n + 1, acc => by
    rw [List.replicate_succ, List.foldl_cons, fold_rep c n, List.replicate_succ, List.flatten_cons, Array.toList_append, List.append_assoc]
def rTimes : R2 := fun x y H Q => ∃ (z : Str) (n : Nat), x = .str z ∧ y = .int (n : Int) ∧ n ≤ 1000 ∧ z.length ≤ 10000 ∧ Q (.str (times z n)) H
theorem op_times : OpR X (binaryOp .Mult) rTimes := by
  intro pins s σ H x y v u Q I rx ry h
  obtain ⟨z, n, rfl, rfl, hn, hz, q⟩ := h
  obtain ⟨t, rfl⟩ := rx
  obtain ⟨t', rfl⟩ := ry
  have hm : z.length * n ≤ 10000 * 1000 := Nat.mul_le_mul hz hn
  refine PySem.P.mul_str (by simp only [Bool.or_eq_false_iff, decide_eq_false_iff_not]; omega) (fun h1 _ => ?_) (fun _ _ => ?_) ?_
  · have h2 : (0 : Int) < (n : Int) := by omega
    have h3 : (z.length : Int) ≤ (2 ^ 63 - 1) / (n : Int) := Int.le_ediv_of_mul_le h2 (by rw [← Int.natCast_mul]; omega)
    omega
  · rw [Int.toNat_natCast]
    show decide (z.length * n > sizeLine) = false
    rw [decide_eq_false_iff_not, sizeLine_eq]
    omega
  · have fin : ∀ (w : Str), w = times z n → w.length ≤ sizeLine ∧ EP X pins σ Q (.str w s.toks) { s with toks := s.toks + 1 } := fun w e => by
      subst e
      refine ⟨?_, .str (times z n), H, I.tok _, ⟨_, rfl⟩, q⟩
      rw [times_len, Nat.mul_comm, sizeLine_eq]
      omega
    by_cases h0 : n = 0
    · subst h0
      rw [if_pos (by decide)]
      exact fin _ rfl
    · rw [if_neg (show ¬ ((n : Int) < 1) by omega)]
      by_cases h1 : ((n : Int) == 1 || z.length == 0) = true
      · rw [if_pos h1]
        have e : z = times z n := by
          rcases Bool.or_eq_true_iff.mp h1 with h | h
          · have : n = 1 := by have := eq_of_beq h; omega
            subst this
            show z = ⟨([z.cps.toList].flatten).toArray⟩
            simp
          · have hz0 : z.cps = #[] := Array.size_eq_zero_iff.mp (eq_of_beq h)
            show z = ⟨((List.replicate n z.cps.toList).flatten).toArray⟩
            rw [hz0]
            obtain ⟨c⟩ := z
            simp only at hz0
            subst hz0
            congr 1
            induction n with
            | zero => rfl
            | succ m ih =>
              rw [List.replicate_succ, List.flatten_cons]
              by_cases hm0 : m = 0
              · subst hm0; rfl
              · simp
        exact ⟨.str (times z n), H, I, ⟨t, by rw [← e]⟩, q⟩
      · rw [if_neg h1]
        refine fin _ ?_
        show (⟨_⟩ : Str) = ⟨_⟩
        congr 1
        apply Array.toList_inj.mp
        rw [Int.toNat_natCast, fold_rep]
        simp
end
end HX
/-! Own layer: a def's promise where nothing is being shown by repr around it (FnG), so that repr of lists and tuples can be read. -/
namespace HG
open PySem PySem.Spec PySem.Calls PyProof.Rows L2
/-- nothing is being shown -/
abbrev Shut (A : Around) : Prop := A.guards = some []
structure FnG (P : Program) (w : World) (K : PySem.W.Frag) (mg : Str → Option Value) (base : Heap) (CX : CXT) (k : Nat) (f : Addr) (fd : FuncData) (ps : List Str) (sp : Sp) : Prop where
  len : ∀ vs H Q E, sp vs H Q E → vs.length = ps.length
  go : ∀ (A : Around) (fr : List Env) (s : Shared) (H : Hp) (ar : Args) (us : List Value) (vs : List V) (Q : VK) (E : XK), Shut A → Room k A → Env0 P w K mg base A fr s H →
    BindsTo s fd ar (ps.zip us) → Vals vs us → sp vs H Q E → codeAny (model P w) A (.call (.ref f) ar) (CR CX fr P w H s Q E) s
section
variable {P : Program} {w : World} {K : PySem.W.Frag} {mg : Str → Option Value} {base : Heap} {CX : CXT} {j k : Nat} {f : Addr} {fd : FuncData} {ps : List Str} {sp sp' : Sp}
theorem FnG.of (F : FnOk P w K mg base CX k f fd ps sp) : FnG P w K mg base CX k f fd ps sp :=
  ⟨F.len, fun A fr s H ar us vs Q E _ hr e0 hb hv hs => F.run A fr s H ar us vs Q E hr e0 hb hv hs⟩
theorem FnG.mono (F : FnG P w K mg base CX j f fd ps sp) (h : j ≤ k) : FnG P w K mg base CX k f fd ps sp :=
  ⟨F.len, fun A fr s H ar us vs Q E g hr => F.go A fr s H ar us vs Q E g (hr.mono h)⟩
theorem FnG.imp (F : FnG P w K mg base CX k f fd ps sp) (h : ∀ vs H Q E, sp' vs H Q E → sp vs H Q E) : FnG P w K mg base CX k f fd ps sp' :=
  ⟨fun vs H Q E q => F.len vs H Q E (h _ _ _ _ q), fun A fr s H ar us vs Q E g hr e0 hb hv hs => F.go A fr s H ar us vs Q E g hr e0 hb hv (h _ _ _ _ hs)⟩
end
section
variable {X : Cx} {CX : CXT} {k : Nat} {f C : Addr} {fd : FuncData} {ps ks : List Str} {sp : Sp} {dvs : List V} {ds : List Value} {E : XK} {x m : Str} {p pos apos : Pos} {e o : Expr} {es : List Expr} {ta : TE} {t : TA} {kws : List Keyword} {tk : TA}
theorem go_fn {pins : List (Addr × Obj)} {σ : L2.St} {H : Hp} {s : Shared} {Q : VK} {us : List Value} {vs : List V} (F : FnG X.prog X.w X.K X.mg X.base CX k f fd ps sp) (sh : Shut X.A) (hr : Room k X.A) (hb : L2.Binds X.K fd ps ds) (hd : Vals dvs ds)
    (hx : Passes CX X E) (I : Inv X pins σ H s) (r : Vals vs us) (h : sp (vs ++ dvs) H Q E) : wpAny (model X.prog X.w) X.A (call (.ref f) us) (EP X pins σ Q) X.xe s := by
  have r2 : Vals (vs ++ dvs) (us ++ ds) := r.append hd
  have hl := r2.length.symm.trans (F.len _ _ _ _ h)
  have one := F.go X.A X.stack s H ⟨us, []⟩ (us ++ ds) (vs ++ dvs) Q E sh hr I.env0 (hb s us I.kIn hl) r2 h
  refine wpAny_call (codeAny_mono one fun res s' hq => ?_)
  match res, hq with
  | .error e, hq => exact hx pins σ H s e s' I hq
  | .ok (.ret u), hq => exact I.after hq
theorem pe_callG (F : FnG X.prog X.w X.K X.mg X.base CX k f fd ps sp) (sh : Shut X.A) (hr : Room k X.A) (hg : Gl X x) (hm : X.mg x = some (.ref f)) (hk : PySem.W.keepIn X.K (.ref f) = true) (hb : L2.Binds X.K fd ps ds) (hd : Vals dvs ds)
    (hx : Passes CX X E) (ha : PA X (e :: es) t) (hdb : (x == ("__debug__" : Str)) = false := by decide) (he : starEach (e :: es) X.env = (false, eval e X.env) :: starEach es X.env := by rfl)
    (hpl : (backTo pos (starEach es X.env)).any (·.1) = false := by rfl) : PE X (.Call (.Name x p) (e :: es) [] pos) (tCall sp dvs E t) := by
  constructor
  intro pins s σ H Q I h
  apply wpAny_Call_Name_kw
  apply ld_glob I hg hm _ hdb
  exact PySem.W.callWith_K (h₀ := X.base) I.ok.mod.kin hk (thn (ha.run pos pins s σ H _ I h) fun us s1 ⟨vs, H1, I1, r, q⟩ => ⟨I1.kIn, go_fn F sh hr hb hd hx I1 r q⟩) he hpl
theorem pe_callG0 (F : FnG X.prog X.w X.K X.mg X.base CX k f fd ps sp) (sh : Shut X.A) (hr : Room k X.A) (hg : Gl X x) (hm : X.mg x = some (.ref f)) (hk : PySem.W.keepIn X.K (.ref f) = true) (hb : L2.Binds X.K fd ps ds) (hd : Vals dvs ds)
    (hx : Passes CX X E) (hdb : (x == ("__debug__" : Str)) = false := by decide) : PE X (.Call (.Name x p) [] [] pos) (tCall sp dvs E tNil) := by
  constructor
  intro pins s σ H Q I h
  apply wpAny_Call_Name_kw
  apply ld_glob I hg hm _ hdb
  exact PySem.W.callWith_K0 I.kIn hk (go_fn (us := []) F sh hr hb hd hx I .nil h)
theorem pe_methG {pl : Sem Bool} (he : PE X o ta) (c : Cls X.K C) (hm : Meth X.K C m f) (F : FnG X.prog X.w X.K X.mg X.base CX k f fd ps sp) (sh : Shut X.A) (hr : Room k X.A) (hb : L2.Binds X.K fd ps ds) (hd : Vals dvs ds) (hx : Passes CX X E) (ha : PA X (e :: es) t)
    (hst : starEach (e :: es) X.env = (false, eval e X.env) :: starEach es X.env := by rfl) (hpl : (backTo pos (starEach es X.env)).any (·.1) = false := by rfl)
    (ht : eval (.Call (.Attribute o m apos) (e :: es) [] pos) X.env = (eval o X.env >>= fun ov => standAt apos.atName >>= fun _ => holding [ov] (getMethod ov m pl) >>= fun fa =>
      callWith pos fa.1 fa.2 (backTo pos (starEach (e :: es) X.env)) (backToKw pos (keywordEach [] X.env))) := by rfl) : PE X (.Call (.Attribute o m apos) (e :: es) [] pos) (tMeth C m sp dvs E ta t) := by
  constructor
  intro pins s σ H Q I h
  refine PySem.W.methodCall_KW (pl := pl) (thn (he.run pins s σ H _ I h) fun u s1 ⟨y, H1, I1, rx, a, dx, fs, ex, ea, l, q⟩ => ?_) ht
  subst ex
  have eu : u = Value.ref a := rx
  subst eu
  refine getmeth_ok I1 ea c hm l ?_
  exact PySem.W.callWith_K (first := [.ref a]) (h₀ := X.base) I.ok.mod.kin hm.kp (thn (ha.run pos pins s1 σ H1 _ I1 q) fun us s2 ⟨vs, H2, I2, r, q2⟩ => ⟨I2.kIn, go_fn (us := .ref a :: us) (vs := .ref a :: vs) F sh hr hb hd hx I2 (.cons rfl r) q2⟩) hst hpl
theorem pe_methG0 {pl : Sem Bool} (he : PE X o ta) (c : Cls X.K C) (hm : Meth X.K C m f) (F : FnG X.prog X.w X.K X.mg X.base CX k f fd ps sp) (sh : Shut X.A) (hr : Room k X.A) (hb : L2.Binds X.K fd ps ds) (hd : Vals dvs ds) (hx : Passes CX X E)
    (ht : eval (.Call (.Attribute o m apos) [] [] pos) X.env = (eval o X.env >>= fun ov => standAt apos.atName >>= fun _ => holding [ov] (getMethod ov m pl) >>= fun fa =>
      callWith pos fa.1 fa.2 (backTo pos (starEach [] X.env)) (backToKw pos (keywordEach [] X.env))) := by rfl) : PE X (.Call (.Attribute o m apos) [] [] pos) (tMeth C m sp dvs E ta tNil) := by
  constructor
  intro pins s σ H Q I h
  refine PySem.W.methodCall_KW (pl := pl) (thn (he.run pins s σ H _ I h) fun u s1 ⟨y, H1, I1, rx, a, dx, fs, ex, ea, l, q⟩ => ?_) ht
  subst ex
  have eu : u = Value.ref a := rx
  subst eu
  refine getmeth_ok I1 ea c hm l ?_
  exact PySem.W.callWith_K0 (first := [.ref a]) I1.kIn hm.kp (go_fn (us := [.ref a]) (vs := [.ref a]) F sh hr hb hd hx I1 (.cons rfl .nil) q)
end
section
variable {P : Program} {w : World} {K : PySem.W.Frag} {mg : Str → Option Value} {base : Heap}
/-- a def of the text: its body, nothing being shown around it -/
theorem okG {x qual : Str} {st : Stmt} {f : Addr} {fd : FuncData} {N ps : List Str} {k : Nat} {sp : Sp} {CX : CXT} (F : Fun K x qual st f fd) (S : FnScope N ps (defScope st)) (len : ∀ vs H Q E, sp vs H Q E → vs.length = ps.length)
    (body : ∀ (cdv : Value) (A : Around) (fr : List Env) (s : Shared) (H : Hp) (vs : List V) (Q : VK) (E : XK), Shut (A.deeper (envOfC qual (defScope st) s.heap.objs.size f cdv)) → Room k (A.deeper (envOfC qual (defScope st) s.heap.objs.size f cdv)) → sp vs H Q E →
      ∃ t, PSs (cxOf CX P w K mg base N qual (defScope st) f cdv A fr s H E) (defBody st) t ∧ t { nx := fun _ H' => Q .non H', rt := Q } (start N vs) H) : FnG P w K mg base CX (k + 1) f fd ps sp := by
  obtain ⟨oc, od, kV, doc, pm, an, cdv, ct, osl, rfl, lk, hcd⟩ := F.ex
  refine ⟨len, fun A fr s H ar us vs Q E sh hr e0 hb r hsp => ?_⟩
  have KX : K.In s.heap := e0.mod.kin.keeps fun b o e => (e0.bs b o e).1
  have lim : s.heap.NoLimit := e0.mod.nolimit.keeps fun b o e => (e0.bs b o e).1
  have kinds : ∀ y ∈ ps.zip us, (defScope st).names.lookup y.1 = some .local ∨ ((defScope st).names.lookup y.1 = some .cell ∧ ((cellsFrom (s.heap.objs.size + 1) (defScope st).names []).lookup y.1).isSome = true) := by
    rintro ⟨n, v⟩ hy
    exact (S.par n (List.of_mem_zip hy).1).imp id fun q => ⟨q, PySem.W.cellsFrom_some _ _ _ (.inl q)⟩
  refine codeAny_call_function hr.depth (KX _ _ lk) rfl S.co S.gen rfl (PySem.W.codeRec_of KX hcd) (hb _ _ _ _ ?_)
  refine wpAny_newFunctionEnv_cells S.kind kinds fun env he s1 y => ?_
  subst he
  refine ⟨lim.keeps y.toInCall.keep, codeAny_func ?_⟩
  obtain ⟨t, ht, hq⟩ := body cdv A fr s H vs Q E sh (hr.deeper _) hsp
  have I : Inv (cxOf CX P w K mg base N qual (defScope st) f cdv A fr s H E) [] (start N vs) H s1 := inv_start S hr.hd e0 (len _ _ _ _ hsp) r y
  refine wpAny_mono (ht.run [] s1 (start N vs) H _ I hq) (fun fl s' hs => ?_) fun _ _ hs => hs
  match fl, hs with
  | .ret u, ⟨v, _, H', J, rv, q⟩ => exact ⟨v, H', J.os, J.bare, J.base, J.hok, rv, q⟩
  | .next, ⟨_, H', J, q⟩ => exact ⟨V.non, H', J.os, J.bare, J.base, J.hok, rfl, q⟩
  | .brk, ⟨_, _, _, q⟩ => exact q.elim
  | .cont, ⟨_, _, _, q⟩ => exact q.elim
/-- .. where nothing is raised -/
theorem okGn {x qual : Str} {st : Stmt} {f : Addr} {fd : FuncData} {N ps : List Str} {k : Nat} {sp : Sp} {CX : CXT} (F : Fun K x qual st f fd) (S : FnScope N ps (defScope st)) (len : ∀ vs H Q E, sp vs H Q E → vs.length = ps.length)
    (body : ∀ (cdv : Value) (A : Around) (fr : List Env) (s : Shared) (H : Hp) (vs : List V) (Q : VK) (E : XK), Shut (A.deeper (envOfC qual (defScope st) s.heap.objs.size f cdv)) → Room k (A.deeper (envOfC qual (defScope st) s.heap.objs.size f cdv)) → sp vs H Q E →
      ∃ t, PSs (cxOf CX P w K mg base N qual (defScope st) f cdv A fr s H E).nox (defBody st) t ∧ t { nx := fun _ H' => Q .non H', rt := Q } (start N vs) H) : FnG P w K mg base CX (k + 1) f fd ps sp :=
  okG F S len fun cdv A fr s H vs Q E sh hr h => let ⟨t, h1, h2⟩ := body cdv A fr s H vs Q E sh hr h; ⟨t, h1.nox, h2⟩

end

/-- the law's own call, over what the top has left -/
theorem law_callG {P : Program} {w : World} {K : PySem.W.Frag} {mg mb : Str → Option Value} {CX : CXT} {k : Nat} {fa a : Addr} {fd : FuncData} {x : Str} {sp : Sp} {s₁ : Shared} {vs : List Value} {ns : List Int}
    (KX : K.In s₁.heap) (hns : s₁.heap.Ns mainGlobals mg) (hb : s₁.heap.Ns builtinsNs mb) (hbb : ∀ x : Str, x ≠ "__name__" → mb x = bootBuiltins x) (hlim : s₁.heap.NoLimit) (hg : s₁.gens = #[])
    (ha : s₁.heap.get? a = some { cls := .type "list", data := .seq vs.toArray }) (hi : IntsAre vs ns) (hl : ns.length ≤ sizeLine) (hr : Room k callerA)
    (F : ∀ base : Heap, K.In base → base.Ns mainGlobals mg → FnG P w K mg base CX k fa fd [x] sp) (hbind : ∀ (s : Shared) (u : Value), BindsTo s fd ⟨[u], []⟩ [(x, u)])
    (hsp : ∀ H : Hp, Only H → SqL K H a (ns.map V.int) → sp [.ref a] H (fun v _ => v = .bl true) fun _ _ _ => False) (hCX : ∀ H e s', CX [] H s₁ (fun _ _ _ => False) e s' → False) :
    codeAny (model P w) callerA (.call (.ref fa) ⟨[.ref a], []⟩) (fun r s' => r = .ok (.ret (.bool true)) ∧ OldK s₁.heap s'.heap ∧ s'.os = s₁.os ∧ AllBare s'.gens) s₁ := by
  have rv := vals_ints hi
  have lenV := hi.length
  have core : ∀ H : Hp, Only H → SqL K H a (ns.map V.int) → HOk P w H s₁.heap → (∀ b, H b ≠ none → b = a) → (H a ≠ none → K.lookup a = none) →
      codeAny (model P w) callerA (.call (.ref fa) ⟨[.ref a], []⟩) (fun r s' => r = .ok (.ret (.bool true)) ∧ OldK s₁.heap s'.heap ∧ s'.os = s₁.os ∧ AllBare s'.gens) s₁ := by
    intro H hO hS hok hA hK
    have dictless : ∀ {b : Addr} {o : Obj} {es : Array DictEntry} {ep : Nat}, s₁.heap.get? b = some o → o.data = .dict es ep → H b = none := by
      intro b o es ep e d
      match q : H b with
      | none => rfl
      | some u =>
        have e' := hA b (by rw [q]; simp)
        subst e'
        rw [ha] at e
        cases e
        exact absurd d (by simp)
    have nsK : ∀ {b : Addr} {m : Str → Option Value}, s₁.heap.Ns b m → (hidT s₁.heap H).Ns b m := fun ⟨o, es, ep, e, d, r⟩ => ⟨o, es, ep, hidT_get e (dictless e d), d, r⟩
    have hKb : K.In (hidT s₁.heap H) := by
      intro b o e
      refine hidT_get (KX b o e) ?_
      match q : H b with
      | none => rfl
      | some u =>
        have e' := hA b (by rw [q]; simp)
        subst e'
        rw [hK (by rw [q]; simp)] at e
        cases e
    obtain ⟨mc, lim1, lim2⟩ := hlim
    have e0 : Env0 P w K mg (hidT s₁.heap H) callerA [] s₁ H :=
      ⟨rfl, ⟨hKb, nsK hns, ⟨mb, nsK hb, hbb⟩, ⟨mc, nsK lim1, lim2⟩⟩, fun _ _ e => of_hidT e, Nat.le_of_eq (hidT_size _ _), trivial, fun b z => absurd (show b ∈ ([] : List Addr) from z) (by simp), hok, .of_eq hg⟩
    refine codeAny_mono ((F _ hKb (nsK hns)).go callerA [] s₁ H ⟨[.ref a], []⟩ [.ref a] [.ref a] _ _ rfl hr e0 (hbind s₁ (.ref a)) (.cons rfl .nil) (hsp H hO hS)) fun r s' h => ?_
    match r, h with
    | .error e, h => exact (hCX H e s' h).elim
    | .ok (.ret u), ⟨v, H', os, bare, un, hok', r', q⟩ =>
      have q' : v = .bl true := q
      subst q'
      have eu : u = Value.bool true := r'
      subst eu
      refine ⟨rfl, OldK.of_keep fun b o e => ?_, os, bare⟩
      match q : H b with
      | none => exact un.keep b o e q (fun z => absurd (show b ∈ ([] : List Addr) from z) (by simp)) (by simp)
      | some u =>
        rcases hO b with z | ⟨ob, xs, z⟩
        · rw [q] at z
          cases z
        · have e1 := (hok b _ z).1
          have e2 := (hok' b _ (un.frzs b ob _ z)).1
          rw [e] at e1
          cases e1
          exact e2
  match hk : K.lookup a with
  | some o =>
    have e := KX a o hk
    rw [ha] at e
    cases e
    exact core (fun _ => none) (fun _ => .inl rfl) (.inr ⟨_, vs.toArray, _, hk, rfl, rfl, rfl, by rw [List.size_toArray, lenV]; exact hl, by simpa using rv⟩) (fun b u z => by have z' : (none : Option HO) = some u := z; cases z') (fun b z => absurd rfl z) fun z => absurd rfl z
  | none =>
    have at_a : ∀ b, b = a → (fun c => if c = a then some (HO.frz { cls := .type "list", data := .seq vs.toArray } (.lst (ns.map V.int))) else none : Hp) b = some (.frz { cls := .type "list", data := .seq vs.toArray } (.lst (ns.map V.int))) := fun b hb => if_pos hb
    have off_a : ∀ b, b ≠ a → (fun c => if c = a then some (HO.frz { cls := .type "list", data := .seq vs.toArray } (.lst (ns.map V.int))) else none : Hp) b = none := fun b hb => if_neg hb
    refine core (fun c => if c = a then some (HO.frz { cls := .type "list", data := .seq vs.toArray } (.lst (ns.map V.int))) else none) (fun b => ?_) (.inl (.inr ⟨_, at_a a rfl⟩)) (fun b u z => ?_) (fun b z => ?_) fun _ => hk
    · by_cases hb : b = a
      · exact .inr ⟨_, _, at_a b hb⟩
      · exact .inl (off_a b hb)
    · by_cases hb : b = a
      · rw [at_a b hb] at z
        cases z
        subst hb
        exact ⟨ha, by rw [List.length_map]; exact hl, vs, _, rv, ha⟩
      · rw [off_a b hb] at z
        cases z
    · by_cases hb : b = a
      · exact hb
      · exact absurd (off_a b hb) z
theorem walk_ofG {l : PySem.W.OpenLaw} {n k : Nat} {q : Program} {loose : List Str} {XP : (Str → Option Value) → Heap → Prop} {YP : World → Heap → Prop} {d : DefRec} {K : Params → PySem.W.Frag} {CX : World → CXT} {sp : World → Sp} {x : Str}
    (hn : l.most = some n) (hn2 : n ≤ sizeLine) (hdf : d.params.defaults = []) (hr : Room k callerA) (hY : ∀ (w : World) (h : Heap), YP w h → (K w.params).In h)
    (F : ∀ (w : World) (mg : Str → Option Value) (fa : Addr) (h : Heap), (K w.params).In h → h.Ns mainGlobals mg → mg d.name = some (.ref fa) →
      ∃ fd : FuncData, (∀ (s : Shared) (u : Value), BindsTo s fd ⟨[u], []⟩ [(x, u)]) ∧ ∀ base : Heap, (K w.params).In base → base.Ns mainGlobals mg → FnG l.prog w (K w.params) mg base (CX w) k fa fd [x] (sp w))
    (hsp : ∀ (w : World) (H : Hp) (a : Addr) (ns : List Int), ns.length ≤ n → Only H → SqL (K w.params) H a (ns.map V.int) → sp w [.ref a] H (fun v _ => v = .bl true) fun _ _ _ => False)
    (hCX : ∀ (w : World) (H : Hp) (s : Shared) (e : Value) (s' : Shared), CX w [] H s (fun _ _ _ => False) e s' → False) : PySem.W.WalkO q loose XP YP l.row.toRowW d [] (fun f vs => PySem.call f vs) := by
  refine Att.attach_call hn hdf ?_
  intro w s₀ s₁ mg mb fa o pm cd doc a vs ns G Y _ _ _ hmg hobj hints hlen hg
  obtain ⟨fd, hb, hF⟩ := F w mg fa _ (hY w _ Y) G.T.g hmg
  exact law_callG (hY w _ Y) G.T.g G.T.b G.T.builtins G.T.nolimit hg hobj hints (Nat.le_trans hlen hn2) hr hF hb (fun H hO hS => hsp w H a ns hlen hO hS) (hCX w · s₁ · ·)
/-! ### repr of data -/
def rRepr (K : PySem.W.Frag) : List V → Hp → VK → Prop := fun vs H Q => ∃ (x : V) (d : PyData), vs = [x] ∧ Dp K H x d ∧ isDisplay d = true ∧ d.showable = true ∧ d.hasDict = false ∧ d.depth ≤ 60 ∧ d.shown.length ≤ sizeLine ∧ Q (.str d.shown) H
section
variable {X : Cx}
theorem call_reprD (sh : Shut X.A) (hu : X.A.units + 64 < cLine) : CallR X (.builtin "repr") (rRepr X.K) := by
  intro pins s σ H vs us Q I r h
  obtain ⟨x, d, rfl, hd, di, sw, nd, dep, len, q⟩ := h
  obtain ⟨u, rfl, rx⟩ := vals1 r
  obtain ⟨as, r1⟩ := Dp.reads I d x u hd rx
  obtain ⟨a, rfl⟩ := isRef_of_reads r1 di
  exact repr_of_reads' r1 sw (PyData.noDict_hsm nd) sh (by omega) (fun _ _ e => e) (fun h' u tk hk => ⟨.str d.shown, H, I.kept hk, ⟨u, rfl⟩, q⟩) len
end
end HG
/-! Own short words. -/
namespace HB
open PySem PySem.Spec PyProof.Rows L2
/-- a def of the top, bound under its name -/
structure Df (K : PySem.W.Frag) (mg : Str → Option Value) (nm qual : Str) (st : Stmt) (ps : List Str) (f : Addr) (fd : FuncData) : Prop where
  F : Fun K nm qual st f fd
  b : L2.Binds K fd ps []
  g : mg nm = some (.ref f)
section
variable {X : Cx} {k : Nat} {f : Addr} {fd : FuncData} {ps : List Str} {sp : Sp} {x qual : Str} {st : Stmt} {p pos : Pos} {e : Expr} {es : List Expr} {t : TA}
theorem pcall (D : Df X.K X.mg x qual st ps f fd) (G : FnOk X.prog X.w X.K X.mg X.base CX0 k f fd ps sp) (hr : Room k X.A) (hg : Gl X x) (ha : PA X (e :: es) t) (hdb : (x == ("__debug__" : Str)) = false := by decide)
    (he : starEach (e :: es) X.env = (false, eval e X.env) :: starEach es X.env := by rfl) (hpl : (backTo pos (starEach es X.env)).any (·.1) = false := by rfl) : PE X (.Call (.Name x p) (e :: es) [] pos) (tCall sp [] E0 t) :=
  pe_call G hr hg D.g D.F.kp D.b .nil pass0 ha hdb he hpl
theorem pcall0 (D : Df X.K X.mg x qual st ps f fd) (G : FnOk X.prog X.w X.K X.mg X.base CX0 k f fd ps sp) (hr : Room k X.A) (hg : Gl X x) (hdb : (x == ("__debug__" : Str)) = false := by decide) : PE X (.Call (.Name x p) [] [] pos) (tCall sp [] E0 tNil) :=
  pe_call0 G hr hg D.g D.F.kp D.b .nil pass0 hdb
theorem gcall (D : Df X.K X.mg x qual st ps f fd) (G : HG.FnG X.prog X.w X.K X.mg X.base CX0 k f fd ps sp) (sh : HG.Shut X.A) (hr : Room k X.A) (hg : Gl X x) (ha : PA X (e :: es) t) (hdb : (x == ("__debug__" : Str)) = false := by decide)
    (he : starEach (e :: es) X.env = (false, eval e X.env) :: starEach es X.env := by rfl) (hpl : (backTo pos (starEach es X.env)).any (·.1) = false := by rfl) : PE X (.Call (.Name x p) (e :: es) [] pos) (tCall sp [] E0 t) :=
  HG.pe_callG G sh hr hg D.g D.F.kp D.b .nil pass0 ha hdb he hpl
/-- a written text or number of the module -/
theorem pe_gs {z : Str} (hg : Gl X x) (hm : ∃ t : Tok, X.mg x = some (.str z t)) (hdb : (x == ("__debug__" : Str)) = false := by decide) : PE X (.Name x pos) (tC (.str z)) := let ⟨t, h⟩ := hm; pe_glob hg h ⟨t, rfl⟩ (hd := hdb)
theorem pe_gi {i : Int} (hg : Gl X x) (hm : ∃ t : Tok, X.mg x = some (.int i t)) (hdb : (x == ("__debug__" : Str)) = false := by decide) : PE X (.Name x pos) (tC (.int i)) := let ⟨t, h⟩ := hm; pe_glob hg h ⟨t, rfl⟩ (hd := hdb)
theorem pe_gr {a : Addr} (hg : Gl X x) (hm : X.mg x = some (.ref a)) (hdb : (x == ("__debug__" : Str)) = false := by decide) : PE X (.Name x pos) (tC (.ref a)) := pe_glob hg hm rfl (hd := hdb)
end
/-! ### heaps -/
theorem same_upd {H : Hp} {p : Addr} {o : HO} (h : H p = none) : Same H (upd H p o) := fun b x e => by
  rw [upd_ne (ne_of_none e h)]
  exact e
theorem _root_.L2.Same.sqt {K : PySem.W.Frag} {H H' : Hp} {a : Addr} {xs : List V} (e : Same H H') (h : SqT K H a xs) : SqT K H' a xs := Evl.ex_t e h
theorem _root_.L2.Same.own {H H' : Hp} {D : Addr} {o : HO} (e : Same H H') (n : H D = none) : Same H (upd H' D o) := fun b x hb => by
  rw [upd_ne (ne_of_none hb n)]
  exact e _ _ hb
theorem sl {K : PySem.W.Frag} {H : Hp} {a : Addr} {xs : List V} (h : H a = some (.lst xs)) : SqL K H a xs := .inl (.inl h)
theorem stt {K : PySem.W.Frag} {H : Hp} {a : Addr} {xs : List V} (h : H a = some (.tup xs)) : SqT K H a xs := .inl (.inl h)
theorem ite1 {b : Bool} {A B : Prop} (e : b = true) (h : A) : if b = true then A else B := by rw [if_pos e]; exact h
theorem ite0 {b : Bool} {A B : Prop} (e : b = false) (h : B) : if b = true then A else B := by rw [if_neg (by rw [e]; decide)]; exact h
mutual
theorem _root_.L2.Same.dp {K : PySem.W.Frag} {H H' : Hp} (e : Same H H') : ∀ {v : V} {d : PyData}, Dp K H v d → Dp K H' v d
  | _, _, .non => .non
  | _, _, .bl b => .bl b
  | _, _, .int i => .int i
  | _, _, .str x => .str x
  | _, _, .lst h k => .lst (e.seq h) (L2.Same.dpAll e k)
  | _, _, .tup h k => .tup (L2.Same.sqt e h) (L2.Same.dpAll e k)
theorem _root_.L2.Same.dpAll {K : PySem.W.Frag} {H H' : Hp} (e : Same H H') : ∀ {vs : List V} {ds : List PyData}, DpAll K H vs ds → DpAll K H' vs ds
  | _, _, .nil => .nil
  | _, _, .cons h k => .cons (L2.Same.dp e h) (L2.Same.dpAll e k)
end
/-! ### a def that calls itself: by the depth -/
section
variable {P : Program} {w : World} {K : PySem.W.Frag} {mg : Str → Option Value} {base : Heap} {CX : CXT} {f : Addr} {fd : FuncData} {ps : List Str}
def spR (sp : Nat → Sp) : Nat → Sp
  | 0 => fun _ _ _ _ => False
  | n + 1 => sp n
theorem rec_fn {sp : Nat → Sp} {c : Nat} (step : ∀ n, FnOk P w K mg base CX (n + c) f fd ps (spR sp n) → FnOk P w K mg base CX (n + c + 1) f fd ps (sp n)) : ∀ n, FnOk P w K mg base CX (n + c + 1) f fd ps (sp n)
  | 0 => step 0 ⟨fun _ _ _ _ h => h.elim, fun _ _ _ _ _ _ _ _ _ _ _ _ _ h => h.elim⟩
  | n + 1 => step (n + 1) (by
    have h := rec_fn step n
    rwa [show n + c + 1 = n + 1 + c by omega] at h)
end
end HB
namespace HX
open PySem PySem.Spec PySem.Calls PyProof.Rows L2
/-- d.update(e) of another dict -/
def tDUpd (td te : TE) : TE := fun σ H Q => td σ H fun x H1 => ∃ a, x = .ref a ∧ IsD H1 a ∧ te σ H1 fun y H2 => ∃ (b : Addr) (kvs more : List (Key × V)), y = .ref b ∧ a ≠ b ∧ H2 a = some (.dK kvs) ∧ H2 b = some (.dK more) ∧
  kvs.length + more.length ≤ sizeLine ∧ Q .non (upd H2 a (.dK (mergeK kvs more)))
section
variable {X : Cx} {o e : Expr} {td te : TE} {apos cpos : Pos}
theorem pe_dupd (ho : PE X o td) (he : PE X e te) (m : M1 X o "update" apos e cpos) : PE X (.Call (.Attribute o "update" apos) [e] [] cpos) (tDUpd td te) := by
  refine ⟨fun pins s σ H Q I h => ?_⟩
  refine wpAny_Call_method m.base m.few m.line PySem.F.plainAttrs_dict PySem.F.slot_dict_update PySem.F.type_dict_update (thn (ho.run pins s σ H _ I h) fun u s1 ⟨x, H1, I1, rx, a, ex, d, q1⟩ => ?_)
  subst ex
  obtain rfl : u = Value.ref a := rx
  obtain ⟨t1, t2, _⟩ := isD_at I1 d
  refine ⟨t1, t2, ?_⟩
  rw [m.trees]
  refine Calls.callWith_builtin rfl (Calls.evalArgs_plain (Calls.spliced_cons (thn (he.run pins s1 σ H1 _ I1 q1) fun iv s2 ⟨y, H2, I2, ry, b, kvs, more, ey, hab, ea, eb, hl, q⟩ => Calls.spliced_nil ?_)))
  subst ey
  obtain rfl : iv = Value.ref b := ry
  obtain ⟨za, ya, vs, rel, da⟩ := dk_of I2.hok ea
  obtain ⟨zb, yb, us, rel2, db⟩ := dk_of I2.hok eb
  have e1 := rel.length
  have e2 := rel2.length
  refine call_meetsIn PySem.F.slot_dict_update da.typeIs PySem.F.entry_dict_update (PySem.F.args_dict_update_2 _ _) (meets_dict_update (mixKind X.prog X.w) a b hab yb)
    ⟨vs, us, da, db, by omega, fun h' dd' _ hs => ?_⟩
  have hl2 : (mergeK kvs more).length ≤ sizeLine := Nat.le_trans (length_mergeK more kvs) hl
  have hex : ∃ q, h'.get? a = some q := let ⟨q, _, _, hq, _⟩ := dd'; ⟨q, hq⟩
  exact ⟨.non, _, d_write (t' := s2.toks) I2 (by rw [ea]; exact True.intro) hs hex (dk_new hl2 ya (KV.merge rel2 rel) dd'), rfl, q⟩
end
end HX
/-! sum(lists, []) -/
namespace HX
open PySem PySem.Spec PySem.Calls PyProof.Rows L2
open Sem (wp)
abbrev lo (its : List Value) (n : Nat) : Obj := { cls := .type "list", data := .seq its.toArray n }
section
variable {prog : Program} {w : World} {A : Around} {R : Result → Shared → Prop}
/-- the places of lists, and what they hold -/
inductive Lists (h : Heap) : List Addr → List (List Value) → Prop
  | nil : Lists h [] []
  | cons {b : Addr} {its : List Value} {n : Nat} {bs : List Addr} {xs : List (List Value)} : h.get? b = some (lo its n) → Lists h bs xs → Lists h (b :: bs) (its :: xs)
theorem Lists.keeps {h h' : Heap} {bs : List Addr} {xs : List (List Value)} (L : Lists h bs xs) (k : ∀ b o, b ∈ bs → h.get? b = some o → h'.get? b = some o) : Lists h' bs xs := by
  induction L with
  | nil => exact .nil
  | cons e _ ih => exact .cons (k _ _ (List.mem_cons_self ..) e) (ih fun b o hb => k b o (List.mem_cons_of_mem _ hb))
theorem sum_loop (hh : A.handled = none) (I l S : Addr) (all : List Addr) (hIl : l ≠ I) (hSI : S ≠ I) (hSl : S ≠ l) :
    ∀ (bs : List Addr) (xs : List (List Value)) (pre : List Addr) (s : Shared) (T : Addr) (acc : List Value) (m c : Nat) (N : Nat), all = pre ++ bs → N ≤ s.heap.objs.size → I ∉ bs → S ∉ bs →
      s.heap.IsListIter I l pre.length → s.heap.IsList l (all.map Value.ref).toArray → Lists s.heap bs xs → s.heap.get? S = some { cls := .type "list", dict := none, data := .seq #[.ref T] c, slots := #[] } → s.heap.get? T = some (lo acc m) →
      T ≠ S → T ≠ I → (acc ++ xs.flatten).length ≤ sizeLine →
      (∀ (h' : Heap) (T' : Addr) (m' : Nat), (∀ b o, b ≠ I → b ≠ S → s.heap.get? b = some o → h'.get? b = some o) → ((bs = [] ∧ T' = T) ∨ N ≤ T') → h'.get? T' = some (lo (acc ++ xs.flatten) m') → R (.ok (.ret (.ref T'))) { s with heap := h' }) →
      codeAny (model prog w) A (.builtin "sum.loop" ⟨[.ref I, .ref S, rawInt 2, rawInt 0], []⟩) R s := by
  intro bs
  induction bs with
  | nil =>
    intro xs pre s T acc m c N hall hN hI hS hit hl hL hSo hTo hTS hTI hz hR
    cases hL
    refine codeAny_builtin F.entry_sum_loop ?_
    rw [Around.under_plainId F.plain_sum_loop _]
    show wpAny _ A.in1 (seqItems? (.ref S) >>= _) _ _ s
    refine wpAny_bind (wpAny_seqItems hSo rfl ?_)
    show wpAny _ A.in1 (tryCatch (pyNext (.ref I)) _ >>= _) _ _ s
    refine wpAny_bind (wpAny_tryCatch (wpAny_pyNext_list_end hh hit hl (by rw [hall]; simp) fun h' he => ?_))
    refine wpAny_pure (hR h' T m (fun b o hb _ e => he b o hb e) (.inl ⟨rfl, rfl⟩) ?_)
    simpa using he T _ hTI hTo
  | cons b bs ih =>
    intro xs pre s T acc m c N hall hN hI hS hit hl hL hSo hTo hTS hTI hz hR
    cases hL with
    | cons hb hL =>
    rename_i its n xs
    refine codeAny_builtin F.entry_sum_loop ?_
    rw [Around.under_plainId F.plain_sum_loop _]
    show wpAny _ A.in1 (seqItems? (.ref S) >>= _) _ _ s
    refine wpAny_bind (wpAny_seqItems hSo rfl ?_)
    show wpAny _ A.in1 (tryCatch (pyNext (.ref I)) _ >>= _) _ _ s
    refine wpAny_bind (wpAny_tryCatch (wpAny_pyNext_list_item hit hl (x := .ref b) (by rw [hall]; simp) fun h' hit' hs' => ?_))
    have bI : b ≠ I := fun z => hI (by rw [z]; exact List.mem_cons_self ..)
    have bS : b ≠ S := fun z => hS (by rw [z]; exact List.mem_cons_self ..)
    have hI' : I ∉ bs := fun z => hI (List.mem_cons_of_mem _ z)
    have hS' : S ∉ bs := fun z => hS (List.mem_cons_of_mem _ z)
    have eT : h'.get? T = some (lo acc m) := (hs'.2 T hTI).trans hTo
    have eb : h'.get? b = some (lo its n) := (hs'.2 b bI).trans hb
    have eS := (hs'.2 S hSI).trans hSo
    have size1 : (acc ++ its).length ≤ sizeLine := by
      simp only [List.flatten_cons, List.length_append] at hz ⊢
      omega
    show wpAny _ A.in1 ((holding [Value.ref b] (binaryOp .Add (.ref T) (.ref b))).attempt >>= _) _ _ _
    refine wpAny_bind (wpAny_attempt (wpAny_holding (PySem.P.add_list eT eb ?_ (by rw [List.size_toArray, List.size_toArray, ← List.length_append]; exact size1))))
    have ea : acc.toArray ++ its.toArray = (acc ++ its).toArray := by simp
    rw [ea]
    have eS2 : (h'.push (lo (acc ++ its) 0)).get? S = some { cls := .type "list", dict := none, data := .seq #[.ref T] c, slots := #[] } := Heap.get?_push_of_some _ eS
    show wpAny _ A.in1 (updateSeq S (fun _ => #[.ref h'.objs.size]) >>= _) _ _ _
    refine wpAny_bind (wpAny_updateSeq eS2 rfl ?_)
    refine wpAny_bind (wpAny_letGo ?_)
    have T1 : h'.objs.size ≠ S := Ne.symm (Nat.ne_of_lt (Heap.lt_size eS))
    have T2 : h'.objs.size ≠ I := Ne.symm (Nat.ne_of_lt (by obtain ⟨_, e, _⟩ := hit'; exact Heap.lt_size e))
    have eS3 := Heap.get?_update_self (Obj.mapSeq fun _ => #[Value.ref h'.objs.size]) eS2 rfl
    have kept : ∀ b o, b ≠ S → h'.get? b = some o → (((h'.push (lo (acc ++ its) 0)).update S (Obj.mapSeq fun _ => #[Value.ref h'.objs.size])).update S (Obj.mapSeq fun _ => #[Value.ref h'.objs.size])).get? b = some o := fun b o h1 e =>
      (Heap.get?_update_other _ _ (Ne.symm h1)).trans ((Heap.get?_update_other _ _ (Ne.symm h1)).trans (Heap.get?_push_of_some _ e))
    show wpAny _ A.in1 (updateSeq S (fun _ => #[.ref h'.objs.size]) >>= _) _ _ _
    refine wpAny_bind (wpAny_updateSeq eS3 rfl ?_)
    refine wpAny_pure ⟨plainId_quiet F.plain_sum_loop _, ih xs (pre ++ [b]) _ h'.objs.size (acc ++ its) 0 _ N (by rw [hall]; simp) ?_ hI' hS' ?_ ?_ ?_ (Heap.get?_update_self _ eS3 rfl) ?_ T1 T2 (by simpa using hz) ?_⟩
    · rw [Heap.size_update, Heap.size_update, Heap.size_push, hs'.1]; omega
    · rw [List.length_append]
      exact hit'.at fun o e => kept _ _ (Ne.symm hSI) e
    · exact hl.at fun o e => kept _ _ (Ne.symm hSl) ((hs'.2 l hIl).trans e)
    · exact hL.keeps fun b o hb e => kept _ _ (fun z => hS' (z ▸ hb)) ((hs'.2 b (fun z => hI' (z ▸ hb))).trans e)
    · exact (Heap.get?_update_other _ _ (Ne.symm T1)).trans ((Heap.get?_update_other _ _ (Ne.symm T1)).trans (Heap.get?_push_size _ rfl))
    · intro h2 T' m' k hN' e
      refine hR h2 T' m' (fun b o h1 h3 eo => k b o h1 h3 (kept b o h3 ((hs'.2 b h1).trans eo))) (.inr ?_) (by simpa using e)
      rcases hN' with ⟨_, rfl⟩ | hN'
      · rw [hs'.1]; exact hN
      · exact hN'
end
theorem args_sum2 (a b : Value) : argsOk "sum" ⟨[a, b], []⟩ := by unfold argsOk; kernel_rfl
section
variable {X : Cx}
theorem vals_refs : ∀ {bs : List Addr} {us : List Value}, Vals (bs.map V.ref) us → us = bs.map Value.ref := fun h => refs_at h
/-- sum(lists, z): some new list -/
def rSumL (K : PySem.W.Frag) : List V → Hp → VK → Prop := fun vs H Q => ∃ (l z : Addr) (bs : List Addr) (xss : List (List V)), vs = [.ref l, .ref z] ∧ H l = some (.lst (bs.map V.ref)) ∧ H z = some (.lst []) ∧ bs ≠ [] ∧
  Paired (fun b xs => H b = some (.lst xs)) bs xss ∧ xss.flatten.length ≤ sizeLine ∧ ∀ p, H p = none → Q (.ref p) (upd H p (.lst xss.flatten))
theorem lists_of {P : Program} {w : World} {H : Hp} {h : Heap} (ok : HOk P w H h) : ∀ {bs : List Addr} {xss : List (List V)}, Paired (fun b xs => H b = some (.lst xs)) bs xss → ∃ its : List (List Value), Lists h bs its ∧ Vals xss.flatten its.flatten
  | _, _, .nil => ⟨[], .nil, .nil⟩
  | _, _, .cons e t => by
    obtain ⟨its, L, r⟩ := lists_of ok t
    obtain ⟨_, it, n, rv, eo⟩ := ok _ _ e
    exact ⟨it :: its, .cons eo L, by rw [List.flatten_cons, List.flatten_cons]; exact rv.append r⟩
theorem call_sumL (hcalm : X.calm = true) : CallR X (.builtin "sum") (rSumL X.K) := by
  intro pins s σ H vs us Q I r h
  obtain ⟨l, z, bs, xss, rfl, hl, hz, hne, hp, hsz, q⟩ := h
  obtain ⟨u1, u2, rfl, r1, r2⟩ := vals2 r
  cases r1
  cases r2
  obtain ⟨_, it, n, rv, hll, el⟩ := I.lstM hl
  obtain ⟨_, itz, nz, rz, hlz, ez⟩ := I.lstM hz
  have e1 := refs_at rv
  subst e1
  cases rz
  obtain ⟨its, L, rvs⟩ := lists_of I.hok hp
  refine call_function_tree F.kind_sum F.plain_sum F.entry_sum (args_sum2 _ _) ?_
  unfold Builtin.«sum»
  simp only [List.length_cons, List.length_nil]
  rw [if_neg (by decide)]
  refine wpAny_bind (wpAny_of_eq (show Builtin.Builtins.bindParams "sum" ["start"] 0 ⟨[.ref z], []⟩ = pure [some (.ref z)] from rfl) ?_)
  have hL : s.heap.IsList l (bs.map Value.ref).toArray := ⟨_, el, rfl, n, rfl⟩
  refine wpAny_bind (wpAny_pyIter_list hL ?_)
  refine wpAny_bind (wpAny_pure ?_)
  simp only [List.forIn_cons, List.forIn_nil]
  have ez2 : ({ s with heap := s.heap.push { cls := .type "list_iterator", data := .fields #[.ref l, .int 0 0] } } : Shared).TypeIs (.ref z) "list" := ⟨_, Heap.get?_push_of_some _ ez, rfl⟩
  refine wpAny_bind (wpAny_bind (wpAny_bind (wpAny_isInstance (T := "list") (b := false) ez2 F.sub_list_str ?_)))
  simp only [Bool.false_eq_true, if_false]
  refine wpAny_pure (wpAny_bind (wpAny_bind (wpAny_isInstance (T := "list") (b := false) ez2 F.sub_list_bytes ?_)))
  simp only [Bool.false_eq_true, if_false]
  refine wpAny_pure (wpAny_bind (wpAny_bind (wpAny_isInstance (T := "list") (b := false) ez2 F.sub_list_bytearray ?_)))
  simp only [Bool.false_eq_true, if_false]
  refine wpAny_pure (wpAny_pure ?_)
  refine wpAny_bind (wpAny_newObj_type ?_)
  have zl : z < s.heap.objs.size := Heap.lt_size ez
  have ll : l < s.heap.objs.size := Heap.lt_size el
  have sz1 : (s.heap.push { cls := .type "list_iterator", data := .fields #[.ref l, .int 0 0] }).objs.size = s.heap.objs.size + 1 := Heap.size_push ..
  have bl : ∀ b ∈ bs, b < s.heap.objs.size := fun b hb => by
    have : ∀ {cs : List Addr} {ys : List (List Value)}, Lists s.heap cs ys → ∀ c ∈ cs, c < s.heap.objs.size := fun {cs ys} L => by
      induction L with
      | nil => intro c hc; cases hc
      | cons e _ ih =>
        intro c hc
        rcases List.mem_cons.mp hc with rfl | hc
        · exact Heap.lt_size e
        · exact ih c hc
    exact this L b hb
  refine wpAny_pure ⟨plainId_quiet F.plain_sum_loop _, ?_⟩
  dsimp only
  rw [sz1]
  refine sum_loop (I.ok.hd hcalm) s.heap.objs.size l (s.heap.objs.size + 1) bs (Nat.ne_of_lt ll) (Nat.succ_ne_self _) (Nat.ne_of_lt (Nat.lt_succ_of_lt ll)).symm bs its [] _ z [] nz 0 s.heap.objs.size rfl ?_ (fun hb => Nat.lt_irrefl _ (bl _ hb)) (fun hb => Nat.lt_irrefl _ (Nat.lt_trans (Nat.lt_succ_self _) (bl _ hb))) ?_ ?_ ?_ ?_ ?_ (Nat.ne_of_lt (Nat.lt_succ_of_lt zl)) (Nat.ne_of_lt zl) ?_ ?_
  · show s.heap.objs.size ≤ ((s.heap.push _).push _).objs.size
    rw [Heap.size_push, sz1]
    exact Nat.le_trans (Nat.le_succ _) (Nat.le_succ _)
  · exact ⟨_, Heap.get?_push_of_some _ (Heap.get?_push_size _ rfl), rfl, rfl⟩
  · exact hL.at fun o e => Heap.get?_push_of_some _ (Heap.get?_push_of_some _ e)
  · exact L.keeps fun b o _ e => Heap.get?_push_of_some _ (Heap.get?_push_of_some _ e)
  · have := Heap.get?_push_size (s.heap.push { cls := .type "list_iterator", data := .fields #[.ref l, .int 0 0] }) (o := { cls := .type "list", data := .seq #[.ref z] }) rfl
    rwa [sz1] at this
  · exact Heap.get?_push_of_some _ (Heap.get?_push_of_some _ ez)
  · rw [List.nil_append, ← rvs.length]; exact hsz
  · intro h' T' m' k hN e
    rcases hN with ⟨z, _⟩ | hN
    · exact absurd z hne
    · rw [List.nil_append] at e
      refine ⟨.ref T', upd H T' (.lst xss.flatten), I.laid (t' := s.toks) (fun b u eb => k b u (Nat.ne_of_lt (Heap.lt_size eb)) (Nat.ne_of_lt (Nat.lt_succ_of_lt (Heap.lt_size eb))) (Heap.get?_push_of_some _ (Heap.get?_push_of_some _ eb))) hN ⟨hsz, its.flatten, m', rvs, e⟩, rfl, q _ (I.hok.fresh hN)⟩
end
end HX
/-! draws kept in a list of three ints; what stands beside them -/
namespace HU
open PySem PySem.Spec PyProof.Rows L2 HB TL
abbrev dr (x y z : Int) : HO := .lst [.int x, .int y, .int z]
/-- the draws stand at d, n of them drawn at most -/
def DL (H : Hp) (d : Addr) (n : Nat) : Prop := ∃ x y z : Int, H d = some (dr x y z) ∧ 0 ≤ z ∧ z ≤ n
/-- all but d stand -/
def U1 (d : Addr) (H H' : Hp) : Prop := ∀ b o, H b = some o → b ≠ d → H' b = some o
section
variable {d : Addr} {H H' H'' : Hp} {K : PySem.W.Frag} {n m : Nat}
theorem U1.refl (H : Hp) : U1 d H H := fun _ _ h _ => h
theorem U1.trans (a : U1 d H H') (b : U1 d H' H'') : U1 d H H'' := fun x o h h1 => b x o (a x o h h1) h1
theorem U1.of (s : Same H H') : U1 d H H' := fun b o h _ => s b o h
theorem U1.set (u : U1 d H H') {o : HO} : U1 d H (upd H' d o) := fun x y h h1 => by
  rw [upd_ne h1]
  exact u x y h h1
theorem U1.own (u : U1 d H H') {b : Addr} {o : HO} (n : H b = none) : U1 d H (upd H' b o) := fun x y h h1 => by
  rw [upd_ne (ne_of_none h n)]
  exact u x y h h1
theorem DL.same (D : DL H d n) (s : Same H H') : DL H' d n := let ⟨x, y, z, h, r⟩ := D; ⟨x, y, z, s _ _ h, r⟩
theorem DL.mono (D : DL H d n) (h : n ≤ m) : DL H d m := let ⟨x, y, z, h1, h2, h3⟩ := D; ⟨x, y, z, h1, h2, by omega⟩
theorem DL.set (D : DL H d n) {b : Addr} {o : HO} (hb : b ≠ d) : DL (upd H b o) d n := let ⟨x, y, z, h, r⟩ := D; ⟨x, y, z, by rw [upd_ne hb.symm]; exact h, r⟩
theorem DL.apart (D : DL H d n) {b : Addr} (h : H b = none) : b ≠ d := let ⟨_, _, _, h1, _⟩ := D; (ne_of_none h1 h).symm
theorem DL.ne (D : DL H d n) {b : Addr} {o : HO} (h : H b = some o) (ho : ∀ xs, o ≠ .lst xs) : b ≠ d := by
  rintro rfl
  obtain ⟨x, y, z, h1, _⟩ := D
  rw [h] at h1
  exact ho _ (Option.some.inj h1)
/-- tuples stand -/
theorem U1.sqt (u : U1 d H H') (D : DL H d n) {a : Addr} {xs : List V} (h : SqT K H a xs) : SqT K H' a xs := by
  rcases h with (h | ⟨o, h⟩) | h
  · exact .inl (.inl (u _ _ h (D.ne h fun _ z => by cases z)))
  · exact .inl (.inr ⟨o, u _ _ h (D.ne h fun _ z => by cases z)⟩)
  · exact .inr h
theorem U1.frz (u : U1 d H H') (D : DL H d n) {a : Addr} {o : Obj} {x : HO} (h : H a = some (.frz o x)) : H' a = some (.frz o x) := u _ _ h (D.ne h fun _ z => by cases z)
theorem U1.dk (u : U1 d H H') (D : DL H d n) {a : Addr} {kvs : List (Key × V)} (h : H a = some (.dK kvs)) : H' a = some (.dK kvs) := u _ _ h (D.ne h fun _ z => by cases z)
theorem U1.sql (u : U1 d H H') {a : Addr} {xs : List V} (hn : a ≠ d) (h : SqL K H a xs) : SqL K H' a xs := by
  rcases h with (h | ⟨o, h⟩) | h
  · exact .inl (.inl (u _ _ h hn))
  · exact .inl (.inr ⟨o, u _ _ h hn⟩)
  · exact .inr h
/-- a list apart from the draws: it is kept or it is another one -/
theorem sql_apart {a : Addr} {xs : List V} (h : SqL K H a xs) (D : DL H d n) (hx : ∀ x y z : Int, xs ≠ [.int x, .int y, .int z]) (hk : ∀ o, H a = some o → a ≠ d ∨ (∃ ys, o = .lst ys)) : (∀ o, SqL K (upd H d o) a xs) := by
  intro o
  rcases h with (h | ⟨q, h⟩) | h
  · by_cases e : a = d
    · subst e
      obtain ⟨x, y, z, h1, _⟩ := D
      rw [h] at h1
      exact absurd (HO.lst.inj (Option.some.inj h1)) (hx x y z)
    · exact .inl (.inl (by rw [upd_ne e]; exact h))
  · exact .inl (.inr ⟨q, by rw [upd_ne (D.ne h fun _ z => by cases z)]; exact h⟩)
  · exact .inr h
end
def sg (c : Nat) : Str := ⟨#[c]⟩
theorem joinL_sg : ∀ cs : List Nat, joinL [] (cs.map fun c => [c]) = cs
  | [] => rfl
  | [c] => rfl
  | c :: d :: r => by
    have ih := joinL_sg (d :: r)
    show [c] ++ [] ++ joinL [] ((d :: r).map fun c => [c]) = _
    rw [ih]
    rfl
theorem join_sg (cs : List Nat) : (Txt.join Str.empty (cs.map sg)).cps.toList = cs := by
  have h := tl_join Str.empty (cs.map sg)
  rw [← join_eq, List.map_map] at h
  exact h.trans (joinL_sg cs)
/-- what is picked from -/
def Pickd (K : PySem.W.Frag) (H : Hp) (x : V) (ys : List V) : Prop := (∃ l, x = .ref l ∧ SqL K H l ys) ∨ (∃ t, x = .ref t ∧ SqT K H t ys) ∨ ∃ z : Str, x = .str z ∧ z.length ≤ 100000 ∧ ys = z.cps.toList.map fun c => V.str (sg c)
/-! ### the law's list -/
theorem script_or {K : PySem.W.Frag} {a : Addr} {ns : List Int} {σ : L2.St} {H : Hp} {Q : VK} (h0 : σ[0]? = some (some (.ref a))) (hS : SqL K H a (ns.map V.int)) (hl : ns.length ≤ 63) (h : ∀ (b : Addr) (ms : List Int) (H1 : Hp), Same H H1 → SqL K H1 b (ms.map V.int) → ms.length ≤ 63 → Q (.ref b) H1) :
    tOrT K (tVar 0) (tLst (tCons (tC (.int 5)) tNil)) σ H Q := by
  refine ⟨_, h0, !(ns.map V.int).isEmpty, .inl ⟨_, hS, rfl⟩, ite2 (fun _ => h a ns H (Same.refl H) hS hl) fun _ => ⟨(by show 1 ≤ sizeLine; decide), fun p hp => h p [5] _ (same_upd hp) (.inl (.inl upd_same)) (by decide)⟩⟩
theorem cut_to (xs : List V) (n : Nat) : cutV xs none (some (n : Int)) = xs.take n := by
  unfold cutV
  rw [HT.sIx_none, HT.sIx_nat, List.drop_zero, Nat.sub_zero, List.take_eq_take_iff]
  omega
theorem cut_ints (ms : List Int) (n : Nat) : ∃ cs : List Int, cutV (ms.map V.int) none (some (n : Int)) = cs.map V.int ∧ cs.length ≤ n := by
  refine ⟨ms.take n, ?_, List.length_take_le _ _⟩
  unfold cutV
  rw [HT.sIx_none, HT.sIx_nat, List.length_map, List.drop_zero, List.map_take, Nat.sub_zero, List.take_eq_take_iff]
  simp only [List.length_map]
  omega
end HU
/-! the head with facts: defs, names, dicts of the top with text keys, and further tests of one's own (ex) -/
namespace HH
open PySem PySem.Spec PyProof.Rows L2 He
abbrev Ex : Type := PySem.W.Frag → Bool
abbrev AlX : Type := Bool × List FnW × List (Option (List (Option (Str × Int))))
def obsX (fa : List Fa) (fn : List DefD) (ex : List Ex) (ts : List Tab) (K : PySem.W.Frag) : AlX := ((fa.all fun f => f.ok K) && ((fn.all fun d => d.ok K) && ex.all fun e => e K), fn.map (fun d => fnW K d.at_), ts.map fun t => dicW K (t.1 K))
def valX (fn : List DefD) (ts : List Tab) (w : World) : AlX := (true, fn.map DefD.val, ts.map fun t => some (keysIn w.params t.2))
def SaysX (fa : List Fa) (fn : List DefD) (ex : List Ex) (ts : List Tab) (w : World) (K : PySem.W.Frag) : Prop := obsX fa fn ex ts K = valX fn ts w
def obsXG (n : Nat) (fa : List Fa) (fn : List DefD) (ex : List Ex) (ts : List Tab) (g : Addr → Option Obj) : AlX := obsX fa fn ex ts (frG g (PySem.sysModules :: PySem.cStatics :: asD g n))
def hookX (n : Nat) (fa : List Fa) (fn : List DefD) (ex : List Ex) (ts : List Tab) : PySem.W.Hook where
  α := AlX
  obs := fun s => obsXG n fa fn ex ts s.heap.get?
  val := fun w => valX fn ts w
  says := fun w h => ∃ K : PySem.W.Frag, K.In h ∧ SaysX fa fn ex ts w K
  of := fun _ _ e => ⟨_, frG_in, e⟩
  keeps := fun _ _ _ ⟨K, hK, c⟩ k => ⟨K, PySem.W.Frag.In.keeps hK k, c⟩
theorem obsXG_eq {n : Nat} {fa : List Fa} {fn : List DefD} {ex : List Ex} {ts : List Tab} {g : Addr → Option Obj} {s : Shared} (h : ∀ a, g a = s.heap.get? a) : obsXG n fa fn ex ts g = (hookX n fa fn ex ts).obs s := by
  have e : g = s.heap.get? := funext h
  rw [e] <;> rfl
section
variable {fa : List Fa} {fn : List DefD} {ex : List Ex} {ts : List Tab} {w : World} {K : PySem.W.Frag}
theorem SaysX.parts (c : SaysX fa fn ex ts w K) : (fa.all fun f => f.ok K) = true ∧ (fn.all fun d => d.ok K) = true ∧ (ex.all fun e => e K) = true := by
  have c1 := ba (show ((fa.all fun f => f.ok K) && ((fn.all fun d => d.ok K) && ex.all fun e => e K)) = true from congrArg (fun z : AlX => z.1) c)
  exact ⟨c1.1, ba c1.2⟩
theorem SaysX.fact (c : SaysX fa fn ex ts w K) (i : Nat) {f : Fa} (h : fa[i]? = some f := by rfl) : f.ok K = true := List.all_eq_true.mp c.parts.1 f (List.mem_of_getElem? h)
theorem SaysX.ex_ (c : SaysX fa fn ex ts w K) (i : Nat) {e : Ex} (h : ex[i]? = some e := by rfl) : e K = true := List.all_eq_true.mp c.parts.2.2 e (List.mem_of_getElem? h)
theorem SaysX.def_ (c : SaysX fa fn ex ts w K) (i : Nat) {d : DefD} (h : fn[i]? = some d := by rfl) : ∃ fd, FunD K d.name d.qual d.params d.body d.scope (d.dvs K) (d.kws K) (fAd K d.at_) fd := by
  have e : fn.map (fun d => fnW K d.at_) = fn.map DefD.val := congrArg (fun z : AlX => z.2.1) c
  have e2 : (fn.map fun d => fnW K d.at_)[i]? = (fn.map DefD.val)[i]? := by rw [e]
  rw [List.getElem?_map, List.getElem?_map, h] at e2
  exact DefD.funD (Option.some.inj e2) (List.all_eq_true.mp c.parts.2.1 d (List.mem_of_getElem? h))
theorem SaysX.dic (c : SaysX fa fn ex ts w K) (i : Nat) {t : Tab} (h : ts[i]? = some t := by rfl) : dicW K (t.1 K) = some (keysIn w.params t.2) := by
  have e : ts.map (fun t => dicW K (t.1 K)) = ts.map fun t => some (keysIn w.params t.2) := congrArg (fun z : AlX => z.2.2) c
  have e2 : (ts.map fun t => dicW K (t.1 K))[i]? = (ts.map fun t => some (keysIn w.params t.2))[i]? := by rw [e]
  rw [List.getElem?_map, List.getElem?_map, h] at e2
  exact Option.some.inj e2
end
/-! ### a def of no positional default -/
theorem funOf {K : PySem.W.Frag} {x qual : Str} {st : Stmt} {kws : List (Str × V)} {f : Addr} {fd : FuncData} (F : FunD K x qual (defArgs st) (defBody st) (defScope st) [] kws f fd) : Fun K x qual st f fd := by
  obtain ⟨oc, od, dV, kV, doc, pm, an, cdv, ct, osl, e, lk, hcd, hd, _⟩ := F.ex
  rcases hd with ⟨_, rfl⟩ | ⟨h, _⟩
  · exact ⟨⟨oc, od, kV, doc, pm, an, cdv, ct, osl, e, lk, hcd⟩, F.kp⟩
  · exact absurd rfl h
/-! ### dicts of the top -/
/-- a name that is no key -/
theorem dic_none {K : PySem.W.Frag} {P : Params} {a : Addr} {ks : List Str} (h : dicW K a = some (keysIn P ks)) {z : Str} (hz : z ∉ ks) : PySem.W.nsIn K a z = some none := by
  unfold dicW at h
  unfold PySem.W.nsIn
  cases q : K.lookup a with
  | none => rw [q] at h; cases h
  | some o =>
    obtain ⟨oc, od, dt, osl⟩ := o
    rw [q] at h
    cases oc with
    | type c =>
      cases od with
      | none =>
        cases dt with
        | dict es n =>
          have h1 : (match decide (c = "dict") && (osl.isEmpty && !(a == sysModules)) with
            | true => some (es.toList.map He.keyOf)
            | false => none) = some (keysIn P ks) := h
          cases y : decide (c = "dict") && (osl.isEmpty && !(a == sysModules)) with
          | false => rw [y] at h1; cases h1
          | true =>
            rw [y] at h1
            have h2 : es.toList.map He.keyOf = keysIn P ks := Option.some.inj h1
            have key : ∀ (l : List DictEntry) (ks : List Str), l.map He.keyOf = keysIn P ks → z ∉ ks → l.find? (·.key.isStr z) = none ∧ l.any (·.refKey) = false := by
              intro l
              induction l with
              | nil => intro ks _ _; exact ⟨rfl, rfl⟩
              | cons e r ih =>
                intro ks hk hz
                cases ks with
                | nil => cases hk
                | cons k ks =>
                  have hk1 : He.keyOf e :: r.map He.keyOf = some (k, PyData.keyHash P k) :: keysIn P ks := hk
                  injection hk1 with hk2 hk3
                  obtain ⟨i1, i2⟩ := ih ks hk3 (fun m => hz (List.mem_cons_of_mem _ m))
                  unfold He.keyOf at hk2
                  split at hk2
                  · rename_i x t ek
                    obtain ⟨ex, _⟩ := Prod.mk.inj (Option.some.inj hk2)
                    have ne : x ≠ z := fun e => hz (by rw [← e, ex]; exact List.mem_cons_self ..)
                    have s1 : e.key.isStr z = false := by
                      rw [ek]
                      exact beq_eq_false_iff_ne.mpr ne
                    have s2 : e.refKey = false := by
                      unfold DictEntry.refKey
                      rw [ek]
                    exact ⟨by rw [List.find?_cons, s1]; exact i1, by rw [List.any_cons, s2, i2]; rfl⟩
                  · cases hk2
            obtain ⟨k1, k2⟩ := key _ _ h2 hz
            show (match es.toList.find? (·.key.isStr z) with
              | some e => some (some e.val)
              | none => if es.toList.any (·.refKey) then none else some none) = some none
            rw [k1, k2]
            rfl
        | _ => cases h
      | some b => cases dt <;> cases h
    | _ => cases od <;> cases dt <;> cases h
/-- a dict's values are tuples of these -/
def dtB (x : Str) (kvs : List (Str × List Dv)) : Ex := fun K => kvs.all fun q => match PySem.W.nsIn K (ga K x) q.1 with
  | some (some (.ref t)) => (match K.lookup t with
    | some ⟨.type c, _, .seq its _, _⟩ => decide (c = "tuple") && (decide (its.size ≤ sizeLine) && relAll (q.2.map (Dv.v K)) its.toList)
    | _ => false)
  | _ => false
theorem dtB_ok {K : PySem.W.Frag} {x : Str} {kvs : List (Str × List Dv)} (h : dtB x kvs K = true) {q : Str × List Dv} (hq : q ∈ kvs) : ∃ t : Addr, PySem.W.nsIn K (ga K x) q.1 = some (some (.ref t)) ∧ ∀ H : Hp, SqT K H t (q.2.map (Dv.v K)) := by
  have h2 := List.all_eq_true.mp h q hq
  cases e : PySem.W.nsIn K (ga K x) q.1 with
  | none => rw [e] at h2; cases h2
  | some r =>
    rw [e] at h2
    cases r with
    | none => cases h2
    | some u =>
      cases u with
      | ref t =>
        refine ⟨t, rfl, fun H => ?_⟩
        have h3 : (match K.lookup t with
          | some ⟨.type c, _, .seq its _, _⟩ => decide (c = "tuple") && (decide (its.size ≤ sizeLine) && relAll (q.2.map (Dv.v K)) its.toList)
          | _ => false) = true := h2
        cases y : K.lookup t with
        | none => rw [y] at h3; cases h3
        | some o =>
          obtain ⟨oc, od, dt, osl⟩ := o
          rw [y] at h3
          cases oc with
          | type c =>
            cases dt with
            | seq its n =>
              obtain ⟨g1, g2⟩ := ba (show (decide (c = "tuple") && (decide (its.size ≤ sizeLine) && relAll (q.2.map (Dv.v K)) its.toList)) = true from h3)
              obtain ⟨g3, g4⟩ := ba g2
              exact .inr ⟨_, its, n, y, congrArg Value.type (of_decide_eq_true g1), rfl, of_decide_eq_true g3, relAll_ok g4⟩
            | _ => cases h3
          | _ => cases dt <;> cases h3
      | _ => cases h2
/-- what is known of a dict of the top whose values are tuples -/
structure DT (K : PySem.W.Frag) (w : World) (a : Addr) (kvs : List (Str × List V)) : Prop where
  kd : ∃ es n, KDict K w a es n
  miss : ∀ z : Str, z ∉ kvs.map (·.1) → PySem.W.nsIn K a z = some none
  there : ∀ q ∈ kvs, ∃ t : Addr, PySem.W.nsIn K a q.1 = some (some (.ref t)) ∧ ∀ H : Hp, SqT K H t q.2
theorem DT.of {K : PySem.W.Frag} {w : World} {x : Str} {kvs : List (Str × List Dv)} {ks : List Str} (h : dtB x kvs K = true) (hd : dicW K (ga K x) = some (keysIn w.params ks)) (e : kvs.map (·.1) = ks) {vs : List (Str × List V)} (ev : vs = kvs.map fun q => (q.1, q.2.map (Dv.v K)) := by rfl) : DT K w (ga K x) vs := by
  subst ev
  refine ⟨dicW_ok hd, fun z hz => dic_none hd fun m => hz ?_, fun q hq => ?_⟩
  · rw [List.map_map, show ((fun q : Str × List V => q.1) ∘ fun q : Str × List Dv => (q.1, q.2.map (Dv.v K))) = (fun q => q.1) from rfl, e]
    exact m
  · obtain ⟨p, hp, rfl⟩ := List.mem_map.mp hq
    exact dtB_ok h hp
/-- a keyword default that is an object -/
def kwAt (p : Str × Option Str) (x : Str) (K : PySem.W.Frag) : Addr := match K.lookup (fAd K p) with
  | some ⟨_, _, .func fd, _⟩ => (match fd.kwdefaults with
    | .ref D => (match PySem.W.nsIn K D x with
      | some (some (.ref a)) => a
      | _ => 0)
    | _ => 0)
  | _ => 0
def tpB (p : PySem.W.Frag → Addr) (vs : List Dv) : Ex := fun K => match K.lookup (p K) with
  | some ⟨.type c, _, .seq its _, _⟩ => decide (c = "tuple") && (decide (its.size ≤ sizeLine) && relAll (vs.map (Dv.v K)) its.toList)
  | _ => false
theorem tpB_ok {K : PySem.W.Frag} {p : PySem.W.Frag → Addr} {vs : List Dv} (h : tpB p vs K = true) (H : Hp) : SqT K H (p K) (vs.map (Dv.v K)) := by
  unfold tpB at h
  cases q : K.lookup (p K) with
  | none => rw [q] at h; cases h
  | some o =>
    obtain ⟨oc, od, dt, osl⟩ := o
    rw [q] at h
    cases oc with
    | type c =>
      cases dt with
      | seq its n =>
        obtain ⟨h1, h2⟩ := ba (show (decide (c = "tuple") && (decide (its.size ≤ sizeLine) && relAll (vs.map (Dv.v K)) its.toList)) = true from h)
        obtain ⟨h3, h4⟩ := ba h2
        exact .inr ⟨_, its, n, q, congrArg Value.type (of_decide_eq_true h1), rfl, of_decide_eq_true h3, relAll_ok h4⟩
      | _ => cases h
    | _ => cases dt <;> cases h
/-! ### the end -/
theorem walk_ofX {l : PySem.W.OpenLaw} {n k : Nat} {q : Program} {loose : List Str} {XP : (Str → Option Value) → Heap → Prop} {YP : World → Heap → Prop} {d : DefRec} {CX : CXT} {x : Str}
    (hn : l.most = some n) (hn2 : n ≤ sizeLine) (hdf : d.params.defaults = []) (hr : Room k callerA)
    (F : ∀ (w : World) (mg : Str → Option Value) (fa : Addr) (h : Heap), YP w h → h.Ns mainGlobals mg → mg d.name = some (.ref fa) →
      ∃ (K : PySem.W.Frag) (fd : FuncData) (sp : Sp), K.In h ∧ (∀ (s : Shared) (u : Value), BindsTo s fd ⟨[u], []⟩ [(x, u)]) ∧
        (∀ (H : Hp) (a : Addr) (ns : List Int), ns.length ≤ n → Only H → SqL K H a (ns.map V.int) → sp [.ref a] H (fun v _ => v = .bl true) fun _ _ _ => False) ∧
        ∀ base : Heap, K.In base → base.Ns mainGlobals mg → HG.FnG l.prog w K mg base CX k fa fd [x] sp)
    (hCX : ∀ (H : Hp) (s : Shared) (e : Value) (s' : Shared), CX [] H s (fun _ _ _ => False) e s' → False) :
    PySem.W.WalkO q loose XP YP l.row.toRowW d [] (fun f vs => PySem.call f vs) := by
  refine Att.attach_call hn hdf fun w s₀ s₁ mg mb fa o pm cd doc a vs ns G Y ho hd hcd hmg hobj hints hlen hg => ?_
  obtain ⟨K, fd, sp, KX, hb, hsp, hF⟩ := F w mg fa _ Y G.T.g hmg
  exact HG.law_callG KX G.T.g G.T.b G.T.builtins G.T.nolimit hg hobj hints (Nat.le_trans hlen hn2) hr hF hb (fun H hO hS => hsp H a ns hlen hO hS) fun H e s' => hCX H s₁ e s'
end HH
/-! enumerate of a tuple -/
namespace HE
open PySem PySem.Spec PySem.Calls PyProof.Rows L2
open Sem (wp)
open AutoSeq1 (wpAny_loadPart')
theorem meets_enumT (l : Addr) (items : Array Value) (n : Nat) (dct : Option Addr) (sl : Array (Option Value)) :
    Meets (Builtin.«enumerate.__new__» ⟨[.type "enumerate", .ref l], []⟩) (fun _ R s => s.heap.get? l = some { cls := .type "tuple", dict := dct, data := .seq items n, slots := sl } ∧
      R (.ok (.ret (.ref (s.heap.push { cls := .type "tuple_iterator", data := .fields #[.ref l, .int 0 0] }).objs.size)))
        { s with heap := (s.heap.push { cls := .type "tuple_iterator", data := .fields #[.ref l, .int 0 0] }).push { cls := .type "enumerate", data := .fields #[.none, .bool false, .ref s.heap.objs.size, rawInt 0, .none, .none] } }) :=
  .of_wp fun prog w A R s h => by
    obtain ⟨hp, g, d, tk, os⟩ := s; obtain ⟨hl, h⟩ := h
    have hsub := sub_enumerate
    have hL : Heap.IsTuple (Shared.heap ⟨hp, g, d, tk, os⟩) l items := ⟨_, hl, rfl, n, rfl⟩
    wp_walk using wpAny_loadPart' hl
    refine wpAny_stack_any fun st => wpAny_pure ?_
    split
    · rename_i c _ _ _ _ _
      cases (c == Value.type "enumerate")
      · wp_walk using wpAny_loadPart' hl, wpAny_pyIter_tuple hL
        exact ⟨_, rfl, h⟩
      · wp_walk using wpAny_loadPart' hl, wpAny_pyIter_tuple hL
        exact ⟨_, rfl, h⟩
    · wp_walk using wpAny_loadPart' hl, wpAny_pyIter_tuple hL
      exact ⟨_, rfl, h⟩
section
variable {prog : Program} {w : World} {A : Around} {E : Value → Shared → Prop} {s : Shared}
theorem call_enumT {l : Addr} {items : Array Value} {Q : Value → Shared → Prop} (hL : s.heap.IsTuple l items)
    (h : ∀ h', IsEnum h' (s.heap.objs.size + 1) s.heap.objs.size 0 .none → h'.IsTupleIter s.heap.objs.size l 0 → h'.objs.size = s.heap.objs.size + 2 →
      (∀ b o, s.heap.get? b = some o → h'.get? b = some o) → Q (.ref (s.heap.objs.size + 1)) { s with heap := h' }) :
    wpAny (model prog w) A (call (.type "enumerate") [.ref l]) Q E s := by
  obtain ⟨⟨c, dct, dt, sl⟩, hl, hc, n, hd⟩ := hL
  replace hc : c = .type "tuple" := hc
  replace hd : dt = .seq items n := hd
  subst hc hd
  refine callType_new F.called_enumerate (by decide) (F.typeCall_enumerate_1 _) (F.newCall_enumerate_1 _) (fun obj => F.args_object_init_2 obj _) F.entry_enumerate_new
    (meets_enumT l items n dct sl) ⟨hl, ?_⟩
  have hz : (s.heap.push { cls := .type "tuple_iterator", data := .fields #[.ref l, .int 0 0] }).objs.size = s.heap.objs.size + 1 := Heap.size_push ..
  show _ ∧ _
  rw [hz]
  have he : IsEnum ((s.heap.push { cls := .type "tuple_iterator", data := .fields #[.ref l, .int 0 0] }).push
      { cls := .type "enumerate", data := .fields #[.none, .bool false, .ref s.heap.objs.size, rawInt 0, .none, .none] }) (s.heap.objs.size + 1) s.heap.objs.size 0 .none := by
    have := Heap.get?_push_size (s.heap.push { cls := .type "tuple_iterator", data := .fields #[.ref l, .int 0 0] })
      (o := { cls := .type "enumerate", data := .fields #[.none, .bool false, .ref s.heap.objs.size, rawInt 0, .none, .none] }) rfl
    rw [hz] at this; exact this
  refine ⟨⟨_, he, rfl⟩, h _ he ⟨_, Heap.get?_push_of_some _ (Heap.get?_push_size _ rfl), rfl, rfl⟩ (by rw [Heap.size_push, hz]) fun b o x => Heap.get?_push_of_some _ (Heap.get?_push_of_some _ x)⟩
end
/-- at the end -/
theorem Draws.tupEnd {prog : Program} {w : World} {A : Around} (hh : A.handled = none) (it t : Addr) (items : Array Value) (j : Nat) (hj : items.size ≤ j) :
    PySem.Draws prog w A it [it, t] j (fun _ _ => False) (fun i h => i = j ∧ h.IsTupleIter it t j ∧ h.IsTuple t items) where
  live := fun _ _ st => let ⟨o, ho, _⟩ := st.2.1; ⟨o, ho⟩
  frame := fun _ _ _ st hk => ⟨st.1, st.2.1.at fun o e => hk it (by simp) o e, st.2.2.at fun o e => hk t (by simp) o e⟩
  item := fun i s Q E hi st hQ => absurd st.1 (Nat.ne_of_lt hi)
  done := fun s Q E st hE => wpAny_nextOf_tuple_end hh st.2.1 st.2.2 (by simp [hj]) hE
def IteT (K : PySem.W.Frag) (a : Addr) : It :=
  ⟨fun i H => ∃ (xs : List V) (x : V), SqT K H a xs ∧ xs[i]? = some x, fun i H v H' => ∃ T x, v = .ref T ∧ H T = none ∧ H' = upd H T (.tup [.int (i : Nat), x]) ∧ ∀ xs, SqT K H a xs → xs[i]? = some x, fun i H => ∃ xs : List V, SqT K H a xs ∧ xs.length ≤ i⟩
theorem turn_enumT {P : Program} {w : World} {K : PySem.W.Frag} {elts : List Expr} {kk : Nat} {tpos : Pos} (a e it : Addr) :
    Turn P w K (.Tuple elts kk tpos) (IteT K a) [e, it] e (fun i h => (∃ old, IsEnum h e it ((i : Nat) : Int) old) ∧ h.IsTupleIter it a i ∧ e ≠ it) where
  mem := by simp
  obj := fun i h st b hb => by
    obtain ⟨⟨old, he⟩, ⟨o, ho, hc, hd⟩, _⟩ := st
    have e' : b = e ∨ b = it := by simpa using hb
    rcases e' with z | z
    · rw [z]; exact ⟨_, he, fun v q => nomatch q⟩
    · rw [z]; exact ⟨o, ho, fun v q => by rw [hd] at q; cases q⟩
  keep := fun i h h' st k => let ⟨⟨old, he⟩, hi, hne⟩ := st; ⟨⟨old, k e (by simp) _ he⟩, hi.at fun o q => k it (by simp) o q, hne⟩
  item := by
    intro X hP hw hK hc i pins s σ H E I hf st hg
    subst hP hw hK
    obtain ⟨⟨old, he⟩, hit, hne⟩ := st
    obtain ⟨xs, x, hq, hx⟩ := hg
    obtain ⟨its, rv, p, hz⟩ := I.tuple hq
    obtain ⟨u, hu, ru⟩ := rv.get hx
    have hel : e < s.heap.objs.size := Heap.lt_size he
    have hil : it < s.heap.objs.size := by obtain ⟨_, q, _⟩ := hit; exact Heap.lt_size q
    have ht : s.heap.IsTuple a its.toArray := p
    have hai : a ≠ it := by
      rintro rfl
      obtain ⟨o, ho, hc1, _⟩ := hit
      obtain ⟨o2, ho2, hc2, _⟩ := ht
      rw [ho] at ho2
      cases ho2
      rw [hc1] at hc2
      exact absurd (Value.type.inj hc2) (by decide)
    have hae : a ≠ e := by
      rintro rfl
      obtain ⟨o2, ho2, hc2, _⟩ := ht
      rw [show s.heap.get? a = some _ from he] at ho2
      cases ho2
      exact absurd (Value.type.inj hc2) (by decide)
    have hlt : i < its.toArray.size := by
      have := List.getElem?_eq_some_iff.mp hu
      simpa using this.1
    refine wpAny_pyNext_enum_itemD (Draws.tuple (A := X.A.in1) (I.ok.hd hc) it a hai its.toArray) he ⟨hit, ht⟩ hlt hne (by simp; exact ⟨hne, Ne.symm hae⟩) fun v h' tk hv ho st' hT hsz hk => ?_
    have ev : v = u := by
      have h1 : its.toArray[i]? = some u := by simpa using hu
      rw [hv] at h1
      exact Option.some.inj h1
    subst ev
    refine ⟨_, rfl, wpAny_letOwnedTupleGo_enum (s := { s with heap := h', toks := tk + 1 }) ho fun h'' he' sb => ?_⟩
    have hT2 : h''.get? s.heap.objs.size = some { cls := .type "tuple", data := .seq #[.int i tk, v] } := (sb.2 _ (Nat.ne_of_gt hel)).trans hT
    have new : ObjOk X.prog X.w (upd H s.heap.objs.size (.tup [.int (i : Nat), x])) h'' s.heap.objs.size (.tup [.int (i : Nat), x]) :=
      ⟨by show 2 ≤ sizeLine; decide, [.int i tk, v], .cons ⟨_, rfl⟩ (.cons ru .nil), ⟨_, hT2, rfl, _, rfl⟩⟩
    have I1 : Inv X pins σ (upd H s.heap.objs.size (.tup [.int (i : Nat), x])) { s with heap := h'', toks := tk + 1 } :=
      I.turnedNew (ch := [e, it]) (fun b ob hb q => (sb.2 b (fun z => hb (by simp [z]))).trans (hk b ob (fun z => hb (by simp [z])) (fun z => hb (by simp [z])) q)) hf (Nat.le_refl _) new
    refine ⟨.ref s.heap.objs.size, _, I1, rfl, ⟨_, x, rfl, I.hok.fresh (Nat.le_refl _), rfl, fun ys hy => by rw [I.tuple_inj hy hq]; exact hx⟩, ⟨⟨v, ?_⟩, st'.1.at fun o q => (sb.2 it (Ne.symm hne)).trans q, hne⟩, fun b hb => ?_⟩
    · have e1 : ((i + 1 : Nat) : Int) = (i : Int) + 1 := by omega
      rw [e1]; exact he'
    · have hb' : b < s.heap.objs.size := by
        have e' : b = e ∨ b = it := by simpa using hb
        rcases e' with z | z
        · rw [z]; exact hel
        · rw [z]; exact hil
      rw [upd_ne (Nat.ne_of_lt hb')]
      exact (hf b hb).1
  done := by
    intro X hP hw hK hc i pins s σ H E I hf st hg
    subst hP hw hK
    obtain ⟨⟨old, he⟩, hit, hne⟩ := st
    obtain ⟨xs, hq, hx⟩ := hg
    obtain ⟨its, rv, p, hz⟩ := I.tuple hq
    obtain ⟨f0, f1, f2, f3, f4, f5⟩ := hf it (by simp)
    have hl := rv.length
    have ht : s.heap.IsTuple a its.toArray := p
    have hai : a ≠ it := by
      rintro rfl
      obtain ⟨o, ho, hc1, _⟩ := hit
      obtain ⟨o2, ho2, hc2, _⟩ := ht
      rw [ho] at ho2
      cases ho2
      rw [hc1] at hc2
      exact absurd (Value.type.inj hc2) (by decide)
    -- the walk may be asked behind the end
    refine wpAny_pyNext_enum_endD (Draws.tupEnd (A := X.A.in1) (I.ok.hd hc) it a its.toArray i (by simp; omega)) he ⟨rfl, hit, ht⟩ fun h' eb => ⟨rfl, I.turned (t' := s.toks) (fun b o hb q => eb b o hb q) f0 f1 f3 f4 f5⟩
  self := fun A i s Q E st h => let ⟨⟨_, he⟩, _⟩ := st; wpAny_pyIter_enum he h
def iEnumT (K : PySem.W.Frag) (ta : TA) : TI := fun σ H R => ta σ H fun vs H1 => ∃ a xs, vs = [.ref a] ∧ SqT K H1 a xs ∧ R (IteT K a) H1
theorem pi_enumT {X : Cx} {e : Expr} {ta : TA} {p pos tpos : Pos} {elts : List Expr} {kk : Nat} (hg : Gl X "enumerate") (hm : X.mg "enumerate" = none) (ha : PA X [e] ta) (hs : starEach [e] X.env = [(false, eval e X.env)] := by rfl) :
    PI X (.Tuple elts kk tpos) (.Call (.Name "enumerate" p) [e] [] pos) (iEnumT X.K ta) := by
  refine ⟨fun pins s σ H R I h => ?_⟩
  refine Call_ (ld_blt I hg hm boot_enumerate (PyProof.Rows.callWith_type1 (thn (ha.run pos pins s σ H _ I h) fun us s1 ⟨vs, H1, I1, r1, q1⟩ => ?_) hs rfl))
  obtain ⟨a, xs, ex, hq, q⟩ := q1
  subst ex
  cases r1 with
  | cons r rr =>
    cases rr
    cases r
    obtain ⟨its, rv, p', hz⟩ := I1.tuple hq
    refine call_enumT (show s1.heap.IsTuple a its.toArray from p') fun h' he hit hsz hk => wpAny_pyIter_enum he ?_
    have I2 : Inv X pins σ H1 { s1 with heap := h' } := I1.kept (t' := s1.toks) hk
    refine ⟨s1.heap.objs.size + 1, [s1.heap.objs.size + 1, s1.heap.objs.size], _, _, H1, rfl, I2, turn_enumT a (s1.heap.objs.size + 1) s1.heap.objs.size, ⟨⟨.none, he⟩, hit, Nat.succ_ne_self _⟩, fun b hb => ?_, q⟩
    have e' : b = s1.heap.objs.size + 1 ∨ b = s1.heap.objs.size := by simpa using hb
    have hle : s1.heap.objs.size ≤ b := by
      rcases e' with z | z
      · rw [z]; exact Nat.le_add_right _ _
      · rw [z]; exact Nat.le_refl _
    exact I1.fpOk hle (I1.hok.fresh hle)
theorem walk_enumT {K : PySem.W.Frag} {a : Addr} {xs : List V} : Walk (IteT K a) xs.length (fun H => SqT K H a xs) (YPair (fun i => some (.int (i : Nat))) (fun i => xs[i]?)) := by
  refine ⟨fun i _ hi q => ⟨xs, xs[i], q, by simp [hi]⟩, fun _ q => ⟨xs, q, Nat.le_refl _⟩, fun i H v H' _ q y => ?_⟩
  obtain ⟨T, x, h1, h2, h3, h4⟩ := y
  exact ⟨T, .int (i : Nat), x, h1, h2, h3, rfl, h4 xs q⟩
end HE
/-! zip of a tuple and a list, over the library's zip of any two iterators (KE.GoesZip, KE.GoesMore) -/
namespace HE
open PySem PySem.Spec PySem.Calls PyProof.Rows L2 RZ
open Sem (wp)
theorem Draws.lstEnd {prog : Program} {w : World} {A : Around} (hh : A.handled = none) (it t : Addr) (items : Array Value) (j : Nat) (hj : items.size ≤ j) :
    PySem.Draws prog w A it [it, t] j (fun _ _ => False) (fun i h => i = j ∧ h.IsListIter it t j ∧ h.IsList t items) where
  live := fun _ _ st => let ⟨o, ho, _⟩ := st.2.1; ⟨o, ho⟩
  frame := fun _ _ _ st hk => ⟨st.1, st.2.1.at fun o e => hk it (by simp) o e, st.2.2.at fun o e => hk t (by simp) o e⟩
  item := fun i s Q E hi st hQ => absurd st.1 (Nat.ne_of_lt hi)
  done := fun s Q E st hE => wpAny_nextOf_list_end hh st.2.1 st.2.2 (by simp [hj]) hE
/-- a tuple at a and a list at b, as they stand at each turn -/
def ItzTL (K : PySem.W.Frag) (a b : Addr) : It :=
  ⟨fun i H => ∃ (xs ys : List V) (x y : V), SqT K H a xs ∧ SqL K H b ys ∧ xs[i]? = some x ∧ ys[i]? = some y,
    fun i H v H' => ∃ T x y, v = .ref T ∧ H T = none ∧ H' = upd H T (.tup [x, y]) ∧ (∀ xs, SqT K H a xs → xs[i]? = some x) ∧ ∀ ys, SqL K H b ys → ys[i]? = some y,
    fun i H => ∃ xs ys : List V, SqT K H a xs ∧ SqL K H b ys ∧ (xs.length ≤ i ∨ ys.length ≤ i)⟩
/-- what the walk's own objects are -/
def ZSt (z TI TO i1 i2 a b : Addr) (i : Nat) (h : Heap) : Prop := IsZip h z TI TO .none ∧ IsTupOf2 h TI (.ref i1) (.ref i2) ∧ (∃ x y, IsTupOf2 h TO x y) ∧ h.IsTupleIter i1 a i ∧ h.IsListIter i2 b i
theorem mem5 {c z TI TO i1 i2 : Addr} (h : c ∈ [z, TI, TO, i1, i2]) : c = z ∨ c = TI ∨ c = TO ∨ c = i1 ∨ c = i2 := by simpa using h
theorem ZSt.live {z TI TO i1 i2 a b : Addr} {i : Nat} {h : Heap} (st : ZSt z TI TO i1 i2 a b i h) {c : Addr} (hc : c ∈ [z, TI, TO, i1, i2]) : ∃ o, h.get? c = some o ∧ ∀ v, o.data ≠ .cell v := by
  obtain ⟨h1, h2, ⟨x, y, h3⟩, ⟨p, e4, _, d4⟩, ⟨q, e5, _, d5⟩⟩ := st
  rcases mem5 hc with e | e | e | e | e <;> subst e
  · exact ⟨_, h1, fun v q => nomatch q⟩
  · exact ⟨_, h2, fun v q => nomatch q⟩
  · exact ⟨_, h3, fun v q => nomatch q⟩
  · exact ⟨p, e4, fun v q => by rw [d4] at q; cases q⟩
  · exact ⟨q, e5, fun v z => by rw [d5] at z; cases z⟩
theorem sep_of {n a b : Addr} (ha : a < n) (hb : b < n) : ZipSep2 (n + 4) (n + 2) (n + 3) n (n + 1) [n, a] [n + 1, b] := by
  have e : ∀ k j : Nat, k ≠ j → n + k ≠ n + j := fun k j h z => h (Nat.add_left_cancel z)
  have ne : ∀ {c : Addr} (k : Nat), c < n → n + k ≠ c := fun k h z => Nat.lt_irrefl n (Nat.lt_of_le_of_lt (Nat.le_add_right n k) (z ▸ h))
  constructor
  · exact e 2 4 (by decide)
  · exact e 3 4 (by decide)
  · exact e 2 3 (by decide)
  · exact e 2 0 (by decide)
  · simp
  · simp only [List.mem_cons, List.not_mem_nil, or_false, not_or]; exact ⟨e 4 0 (by decide), ne 4 ha⟩
  · simp only [List.mem_cons, List.not_mem_nil, or_false, not_or]; exact ⟨e 3 0 (by decide), ne 3 ha⟩
  · exact e 2 1 (by decide)
  · simp
  · simp only [List.mem_cons, List.not_mem_nil, or_false, not_or]; exact ⟨e 4 1 (by decide), ne 4 hb⟩
  · simp only [List.mem_cons, List.not_mem_nil, or_false, not_or]; exact ⟨e 3 1 (by decide), ne 3 hb⟩
  · simp only [List.mem_cons, List.not_mem_nil, or_false, not_or]; exact ⟨e 0 1 (by decide), ne 0 hb⟩
  · simp only [List.mem_cons, List.not_mem_nil, or_false, not_or]; exact ⟨e 1 0 (by decide), ne 1 ha⟩
theorem turn_zipTL {P : Program} {w : World} {K : PySem.W.Frag} {elts : List Expr} {kk : Nat} {tpos : Pos} {a b z TI TO i1 i2 : Addr} (D : ZipSep2 z TI TO i1 i2 [i1, a] [i2, b]) (hai : a ≠ i1) (hbi : b ≠ i2) (hz1 : i1 ≠ z) (hz2 : i2 ≠ z) :
    Turn P w K (.Tuple elts kk tpos) (ItzTL K a b) [z, TI, TO, i1, i2] z (ZSt z TI TO i1 i2 a b) where
  mem := by simp
  obj := fun i h st c hc => st.live hc
  keep := fun i h h' st k => by
    obtain ⟨h1, h2, ⟨x, y, h3⟩, h4, h5⟩ := st
    exact ⟨k z (by simp) _ h1, k TI (by simp) _ h2, ⟨x, y, k TO (by simp) _ h3⟩, h4.at fun o q => k i1 (by simp) o q, h5.at fun o q => k i2 (by simp) o q⟩
  item := by
    intro X hP hw hK hc i pins s σ H E I hf st hg
    subst hP hw hK
    obtain ⟨g1, g2, ⟨x0, y0, g3⟩, g4, g5⟩ := id st
    obtain ⟨xs, ys, x, y, hqx, hqy, hx, hy⟩ := hg
    obtain ⟨its, rv, p, _⟩ := I.tuple hqx
    obtain ⟨its2, rv2, p2, _⟩ := I.list hqy
    obtain ⟨u, hu, ru⟩ := rv.get hx
    obtain ⟨u2, hu2, ru2⟩ := rv2.get hy
    have ht : s.heap.IsTuple a its.toArray := p
    have lt1 : i < its.toArray.size := by have := (List.getElem?_eq_some_iff.mp hu).1; simpa using this
    have lt2 : i < its2.toArray.size := by have := (List.getElem?_eq_some_iff.mp hu2).1; simpa using this
    have zl : z < s.heap.objs.size := Heap.lt_size g1
    refine wpAny_pyNext_zipD2_item D (PySem.Draws.tuple (A := X.A.in1) (I.ok.hd hc) i1 a hai its.toArray) (PySem.Draws.list (A := X.A.in1) (I.ok.hd hc) i2 b hbi its2.toArray) g1 g2 g3 ⟨g4, ht⟩ ⟨g5, p2.isList⟩ lt1 lt2
      fun v1 v2 h' tk e1 e2 z' t' s1 s2 hT hsz hk => ?_
    have ev1 : v1 = u := by
      have h1 : its.toArray[i]? = some u := by simpa using hu
      rw [e1] at h1
      exact Option.some.inj h1
    have ev2 : v2 = u2 := by
      have h1 : its2.toArray[i]? = some u2 := by simpa using hu2
      rw [e2] at h1
      exact Option.some.inj h1
    subst ev1
    subst ev2
    refine ⟨_, rfl, wpAny_letOwnedTupleGo_zip (s := { s with heap := h', toks := tk }) z' fun h2 z2 sb => ?_⟩
    have nz : s.heap.objs.size ≠ z := Nat.ne_of_gt zl
    have hT2 : h2.get? s.heap.objs.size = some { cls := .type "tuple", data := .seq #[v1, v2] } := (sb.2 _ nz).trans hT
    have old : ∀ c o, c ∉ [z, TI, TO, i1, i2] → s.heap.get? c = some o → h2.get? c = some o := fun c o hm q => by
      simp only [List.mem_cons, List.not_mem_nil, or_false, not_or] at hm
      exact (sb.2 c hm.1).trans (hk c o hm.1 hm.2.2.1 hm.2.2.2.1 hm.2.2.2.2 q)
    have new : ObjOk X.prog X.w (upd H s.heap.objs.size (.tup [x, y])) h2 s.heap.objs.size (.tup [x, y]) :=
      ⟨by show 2 ≤ sizeLine; decide, [v1, v2], .cons ru (.cons ru2 .nil), ⟨_, hT2, rfl, _, rfl⟩⟩
    have I1 := I.turnedNew (t' := tk) (ch := [z, TI, TO, i1, i2]) (h' := h2) old hf (Nat.le_refl _) new
    refine ⟨.ref s.heap.objs.size, _, I1, rfl, ⟨_, x, y, rfl, I.hok.fresh (Nat.le_refl _), rfl, fun l hl => by rw [I.tuple_inj hl hqx]; exact hx, fun l hl => by rw [I.list_inj hl hqy]; exact hy⟩,
      ⟨z2, (sb.2 _ D.TIz).trans (hk _ _ D.TIz D.TITO D.TIi1 D.TIi2 g2), ⟨v1, v2, (sb.2 _ D.TOz).trans t'⟩, s1.1.at fun o q => (sb.2 _ hz1).trans q, s2.1.at fun o q => (sb.2 _ hz2).trans q⟩, fun c hm => ?_⟩
    obtain ⟨o, ho, _⟩ := st.live hm
    rw [upd_ne (Nat.ne_of_lt (Heap.lt_size ho))]
    exact (hf c hm).1
  done := by
    intro X hP hw hK hc i pins s σ H E I hf st hg
    subst hP hw hK
    obtain ⟨g1, g2, ⟨x0, y0, g3⟩, g4, g5⟩ := st
    obtain ⟨xs, ys, hqx, hqy, hend⟩ := hg
    obtain ⟨its, rv, p, _⟩ := I.tuple hqx
    obtain ⟨its2, rv2, p2, _⟩ := I.list hqy
    have ht : s.heap.IsTuple a its.toArray := p
    have l1 := rv.length
    have l2 := rv2.length
    have fin : ∀ (h' : Heap) (tk : Nat), (∀ c o, c ≠ z → c ≠ TO → c ≠ i1 → c ≠ i2 → s.heap.get? c = some o → h'.get? c = some o) → (none : Option Value) = none ∧ Inv X pins σ H { s with heap := h', toks := tk } := fun h' tk hk =>
      ⟨rfl, I.turnedL (t' := tk) (ch := [z, TI, TO, i1, i2]) (fun c o hb q => by
        simp only [List.mem_cons, List.not_mem_nil, or_false, not_or] at hb
        exact hk c o hb.1 hb.2.2.1 hb.2.2.2.1 hb.2.2.2.2 q) hf⟩
    have hh := I.ok.hd hc
    by_cases c1 : its.toArray.size ≤ i
    · by_cases c2 : its2.toArray.size ≤ i
      · exact wpAny_pyNext_zipD2_end D (Draws.tupEnd (A := X.A.in1) hh i1 a its.toArray i c1) (Draws.lstEnd (A := X.A.in1) hh i2 b its2.toArray i c2) g1 g2 g3 ⟨rfl, g4, ht⟩ ⟨rfl, g5, p2.isList⟩ (Nat.le_refl _) (Nat.le_refl _) (.inl rfl) fin
      · exact wpAny_pyNext_zipD2_end D (Draws.tupEnd (A := X.A.in1) hh i1 a its.toArray i c1) (PySem.Draws.list (A := X.A.in1) hh i2 b hbi its2.toArray) g1 g2 g3 ⟨rfl, g4, ht⟩ ⟨g5, p2.isList⟩ (Nat.le_refl _) (by omega) (.inl rfl) fin
    · have c2 : its2.toArray.size ≤ i := by
        simp only [List.size_toArray] at c1 ⊢
        omega
      exact wpAny_pyNext_zipD2_end D (PySem.Draws.tuple (A := X.A.in1) hh i1 a hai its.toArray) (Draws.lstEnd (A := X.A.in1) hh i2 b its2.toArray i c2) g1 g2 g3 ⟨g4, ht⟩ ⟨rfl, g5, p2.isList⟩ (by omega) (Nat.le_refl _) (.inr rfl) fin
  self := fun A i s Q E st h => wpAny_pyIter_zip st.1 h
def iZipTL (K : PySem.W.Frag) (ta : TA) : TI := fun σ H R => ta σ H fun vs H1 => ∃ a b xs ys, vs = [.ref a, .ref b] ∧ SqT K H1 a xs ∧ SqL K H1 b ys ∧ R (ItzTL K a b) H1
theorem pi_zipTL {X : Cx} {e e2 : Expr} {ta : TA} {p pos tpos : Pos} {elts : List Expr} {kk : Nat} (hg : Gl X "zip") (hm : X.mg "zip" = none) (ha : PA X [e, e2] ta)
    (hs : starEach [e, e2] X.env = (false, eval e X.env) :: starEach [e2] X.env := by rfl) (hpl : (backTo pos (starEach [e2] X.env)).any (·.1) = false := by rfl) :
    PI X (.Tuple elts kk tpos) (.Call (.Name "zip" p) [e, e2] [] pos) (iZipTL X.K ta) := by
  refine ⟨fun pins s σ H R I h => ?_⟩
  refine Call_ (ld_blt I hg hm PyProof.Rows.boot_zip (PyProof.Rows.callWith_type1 (thn (ha.run pos pins s σ H _ I h) fun us s1 ⟨vs, H1, I1, r1, a, b, xs, ys, ex, hqx, hqy, q⟩ => ?_) hs hpl))
  subst ex
  obtain ⟨u1, u2, rfl, ra, rb⟩ := vals2 r1
  cases ra
  cases rb
  obtain ⟨its, rv, p1, _⟩ := I1.tuple hqx
  obtain ⟨its2, rv2, p2, _⟩ := I1.list hqy
  have ht : s1.heap.IsTuple a its.toArray := p1
  have al : a < s1.heap.objs.size := by obtain ⟨_, e, _⟩ := ht; exact Heap.lt_size e
  refine zip_begins2 (begins_tuple a its.toArray) (begins_list b its2.toArray) ht p2.isList fun h' hz hTI hTO k1 k2 hsz hk => wpAny_pyIter_zip hz ?_
  have I2 : Inv X pins σ H1 { s1 with heap := h' } := I1.kept (t' := s1.toks) hk
  have n1 : ∀ k : Nat, s1.heap.objs.size + (k + 1) ≠ s1.heap.objs.size := fun k z => absurd (Nat.add_left_cancel (show s1.heap.objs.size + (k + 1) = s1.heap.objs.size + 0 from z)) (Nat.succ_ne_zero k)
  have n2 : s1.heap.objs.size + 1 ≠ s1.heap.objs.size + 4 := fun z => absurd (Nat.add_left_cancel z) (by decide)
  refine ⟨s1.heap.objs.size + 4, _, _, _, H1, rfl, I2, turn_zipTL (sep_of al p2.lt) (Nat.ne_of_lt al) (Nat.ne_of_lt (Nat.lt_succ_of_lt p2.lt)) (Ne.symm (n1 3)) n2, ⟨hz, hTI, ⟨_, _, hTO⟩, ⟨_, k1, rfl, rfl⟩, ⟨_, k2, rfl, rfl⟩⟩, fun c hm => ?_, q⟩
  have hle : s1.heap.objs.size ≤ c := by
    rcases mem5 hm with e | e | e | e | e <;> rw [e]
    · exact Nat.le_add_right _ _
    · exact Nat.le_add_right _ _
    · exact Nat.le_add_right _ _
    · exact Nat.le_refl _
    · exact Nat.le_add_right _ _
  exact I1.fpOk hle (I1.hok.fresh hle)
theorem walk_zipTL {K : PySem.W.Frag} {a b : Addr} {xs ys : List V} {n : Nat} (hn : n = min xs.length ys.length) : Walk (ItzTL K a b) n (fun H => SqT K H a xs ∧ SqL K H b ys) (YPair (fun i => xs[i]?) (fun i => ys[i]?)) := by
  subst hn
  refine ⟨fun i H hi q => ?_, fun _ q => ⟨xs, ys, q.1, q.2, by omega⟩, fun i H v H' _ q y => ?_⟩
  · have h1 : i < xs.length := by omega
    have h2 : i < ys.length := by omega
    exact ⟨xs, ys, xs[i], ys[i], q.1, q.2, by simp [h1], by simp [h2]⟩
  · obtain ⟨T, x, y, e1, e2, e3, e4, e5⟩ := y
    exact ⟨T, x, y, e1, e2, e3, e4 xs q.1, e5 ys q.2⟩
theorem walk_zipT {K : PySem.W.Frag} {a b : Addr} {xs ys : List V} {n : Nat} (hn : n = min xs.length ys.length) : Walk (ItzT K a b) n (fun H => SqT K H a xs ∧ SqT K H b ys) (YPair (fun i => xs[i]?) (fun i => ys[i]?)) := by
  subst hn
  refine ⟨fun i H hi q => ?_, fun _ q => ⟨xs, ys, q.1, q.2, by omega⟩, fun i H v H' _ q y => ?_⟩
  · have h1 : i < xs.length := by omega
    have h2 : i < ys.length := by omega
    exact ⟨xs, ys, xs[i], ys[i], q.1, q.2, by simp [h1], by simp [h2]⟩
  · obtain ⟨T, x, y, e1, e2, e3, e4, e5⟩ := y
    exact ⟨T, x, y, e1, e2, e3, e4 xs q.1, e5 ys q.2⟩
end HE
/-! dicts of the top whose values are tuples: k in d, d[k]; blocks that are never run; data -/
namespace HD
open PySem PySem.Spec PySem.Calls PyProof.Rows L2 HB HH
section
variable {X : Cx} {a : Addr} {kvs : List (Str × List V)}
theorem _root_.HH.DT.ns {K : PySem.W.Frag} {w : World} (D : DT K w a kvs) (z : Str) : ∃ r, PySem.W.nsIn K a z = some r ∧ r.isSome = decide (z ∈ kvs.map (·.1)) := by
  by_cases h : z ∈ kvs.map (·.1)
  · obtain ⟨q, hq, rfl⟩ := List.mem_map.mp h
    obtain ⟨t, e, _⟩ := D.there q hq
    exact ⟨_, e, by rw [decide_eq_true h]; rfl⟩
  · exact ⟨_, D.miss z h, by rw [decide_eq_false h]; rfl⟩
def rInDT (a : Addr) (kvs : List (Str × List V)) (neg : Bool) : R2 := fun x y H Q => ∃ z : Str, x = .str z ∧ y = .ref a ∧ Q (.bl (if neg then !decide (z ∈ kvs.map (·.1)) else decide (z ∈ kvs.map (·.1)))) H
theorem op_in_dt (D : DT X.K X.w a kvs) : OpR X (compareOp .In) (rInDT a kvs false) := by
  obtain ⟨es, n, kd⟩ := D.kd
  intro pins s σ H x y v u Q I rx ry h
  obtain ⟨z, e1, e2, q⟩ := h
  obtain ⟨r, er, es'⟩ := D.ns z
  exact op_in_kd kd pins s σ H x y v u Q I rx ry ⟨z, r, e1, e2, er, by rw [es']; exact q⟩
theorem op_notIn_dt (D : DT X.K X.w a kvs) : OpR X (compareOp .NotIn) (rInDT a kvs true) := by
  obtain ⟨es, n, kd⟩ := D.kd
  intro pins s σ H x y v u Q I rx ry h
  obtain ⟨z, e1, e2, q⟩ := h
  obtain ⟨r, er, es'⟩ := D.ns z
  exact op_notIn_kd kd pins s σ H x y v u Q I rx ry ⟨z, r, e1, e2, er, by rw [es']; exact q⟩
def rIxDT (K : PySem.W.Frag) (a : Addr) (kvs : List (Str × List V)) : R2 := fun x y H Q => ∃ q ∈ kvs, x = .ref a ∧ y = .str q.1 ∧ ∀ t : Addr, (∀ H' : Hp, SqT K H' t q.2) → Q (.ref t) H
theorem ix_dt (D : DT X.K X.w a kvs) : IxR X (rIxDT X.K a kvs) := by
  obtain ⟨es, n, kd⟩ := D.kd
  intro value slice pins s σ H x y v u Q I rx ry h hs
  obtain ⟨q, hq, e1, e2, k⟩ := h
  obtain ⟨t, et, ht⟩ := D.there q hq
  exact ix_kdict value slice pins s σ H x y v u Q I rx ry ⟨a, q.1, .ref t, e1, e2, ⟨es, n, _, kd.at_, kd.lit, et, rfl⟩, k t ht⟩ hs
/-- a block that is never run -/
def tDead : TS := fun _ _ _ => False
theorem pss_dead {b : List Stmt} : PSs X b tDead := ⟨fun _ _ _ _ _ _ h => h.elim⟩
end
/-! ### data: kinds, sizes -/
mutual
/-- texts and displays of a size that the rules take -/
def okD : PyData → Bool
  | .str z => decide (z.length ≤ 100000)
  | .list xs => decide (xs.length ≤ 10000) && okAll xs
  | .tuple xs => decide (xs.length ≤ 10000) && okAll xs
  | _ => true
def okAll : List PyData → Bool
  | [] => true
  | x :: xs => okD x && okAll xs
end
theorem okAll_mem : ∀ {xs : List PyData}, okAll xs = true → ∀ x ∈ xs, okD x = true
  | y :: ys, h, x, hx => by
    simp only [okAll, Bool.and_eq_true] at h
    rcases List.mem_cons.mp hx with rfl | hx
    · exact h.1
    · exact okAll_mem h.2 x hx
/-- the kind's name -/
def kindD : PyData → String
  | .none => "NoneType"
  | .bool _ => "bool"
  | .int _ => "int"
  | .str _ => "str"
  | .list _ => "list"
  | .tuple _ => "tuple"
  | _ => ""
theorem dp_ty {K : PySem.W.Frag} {H : Hp} {v : V} {d : PyData} (h : Dp K H v d) : TyX K H v (.type (kindD d)) ∧ kindD d ∈ ["NoneType", "bool", "int", "str", "list", "tuple"] := by
  cases h with
  | non => exact ⟨.base .non, by simp [kindD]⟩
  | bl b => exact ⟨.base (.bl b), by simp [kindD]⟩
  | int i => exact ⟨.base (.int i), by simp [kindD]⟩
  | str x => exact ⟨.base (.str x), by simp [kindD]⟩
  | lst h _ =>
    refine ⟨?_, by simp [kindD]⟩
    rcases h with (h | ⟨o, h⟩) | ⟨o, its, n, h, c, _⟩
    · exact .base (.lst h)
    · exact .base (.frz h)
    · exact .kList h c
  | tup h _ =>
    refine ⟨?_, by simp [kindD]⟩
    rcases h with (h | ⟨o, h⟩) | ⟨o, its, n, h, c, _⟩
    · exact .base (.tup h)
    · exact .fTuple h
    · exact .kTuple h c
/-- isinstance(x, k) of data -/
theorem kit_dat {K : PySem.W.Frag} {d : PyData} {k : String} (hk : k ∈ ["str", "tuple", "bool"]) (h : kindD d ∈ ["NoneType", "bool", "int", "str", "list", "tuple"]) : PySem.W.kitOne K (.type (kindD d)) (.type k) = some (decide (kindD d = k)) := by
  have : kitB (kindD d) k = some (decide (kindD d = k)) := by
    generalize kindD d = j at h
    simp only [List.mem_cons, List.not_mem_nil, or_false] at hk h
    rcases hk with rfl | rfl | rfl <;> rcases h with rfl | rfl | rfl | rfl | rfl | rfl <;> decide +kernel
  exact kit_ty this
theorem kit_datInt {K : PySem.W.Frag} {d : PyData} (h : kindD d ∈ ["NoneType", "bool", "int", "str", "list", "tuple"]) : PySem.W.kitOne K (.type (kindD d)) (.type "int") = some (decide (kindD d = "int" ∨ kindD d = "bool")) := by
  have : kitB (kindD d) "int" = some (decide (kindD d = "int" ∨ kindD d = "bool")) := by
    generalize kindD d = j at h
    simp only [List.mem_cons, List.not_mem_nil, or_false] at h
    rcases h with rfl | rfl | rfl | rfl | rfl | rfl <;> decide +kernel
  exact kit_ty this
end HD
/-! dicts of texts: as lists of pairs; sorted pairs of texts -/
namespace HS
open PySem PySem.Spec PyProof.Rows L2 HX HB
/-- a dict of texts -/
def dz (ts : List (Str × Str)) : List (Key × V) := ts.map fun p => (Sum.inr p.1, .str p.2)
def lookS (ts : List (Str × Str)) (k : Str) : Option Str := (ts.find? fun p => decide (p.1 = k)).map (·.2)
theorem lookS_val (ts : List (Str × Str)) (k : Str) : valV (dz ts) (Sum.inr k : Key) = (lookS ts k).map V.str := by
  unfold valV dz lookS
  rw [List.find?_map]
  have e : ((fun kv : Key × V => decide (kv.1 = Sum.inr k)) ∘ fun p : Str × Str => (Sum.inr p.1, V.str p.2)) = fun p : Str × Str => decide (p.1 = k) := by
    funext p
    show decide ((Sum.inr p.1 : Key) = Sum.inr k) = _
    rw [key_rr]
  rw [e]
  cases ts.find? fun p => decide (p.1 = k) <;> rfl
theorem nodup_fst : ∀ {ks : List (Str × Str)}, (ks.map (·.1)).Nodup → ∀ {p q : Str × Str}, p ∈ ks → q ∈ ks → p.1 = q.1 → p = q
  | [], _, p, _, hp, _, _ => by cases hp
  | a :: l, h, p, q, hp, hq, he => by
    rw [List.map_cons, List.nodup_cons] at h
    rcases List.mem_cons.mp hp with e1 | hp' <;> rcases List.mem_cons.mp hq with e2 | hq'
    · rw [e1, e2]
    · subst e1; exact absurd (List.mem_map.mpr ⟨q, hq', he.symm⟩) h.1
    · subst e2; exact absurd (List.mem_map.mpr ⟨p, hp', he⟩) h.1
    · exact nodup_fst h.2 hp' hq' he
theorem lookS_mem {ts : List (Str × Str)} (h : (ts.map (·.1)).Nodup) {k w : Str} : lookS ts k = some w ↔ (k, w) ∈ ts := by
  unfold lookS
  constructor
  · intro e
    cases e1 : ts.find? fun p => decide (p.1 = k) with
    | none => rw [e1] at e; cases e
    | some p =>
      rw [e1] at e
      cases e
      have h1 := List.mem_of_find?_eq_some e1
      have h2 : p.1 = k := by have := List.find?_some e1; simpa using this
      rw [← h2]
      exact h1
  · intro hm
    cases e1 : ts.find? fun p => decide (p.1 = k) with
    | none => exact absurd (List.find?_eq_none.mp e1 _ hm) (by simp)
    | some p =>
      have h1 := List.mem_of_find?_eq_some e1
      have h2 : p.1 = k := by have := List.find?_some e1; simpa using this
      rw [nodup_fst h h1 hm h2]
      rfl
theorem merge_new : ∀ (more acc : List (Key × V)), ((acc ++ more).map (·.1)).Nodup → mergeK acc more = acc ++ more
  | [], acc, _ => by rw [List.append_nil]; rfl
  | (k, v) :: more, acc, h => by
    have hk : valV acc k = none := by
      unfold valV
      cases e : acc.find? fun kv => decide (kv.1 = k) with
      | none => rfl
      | some p =>
        have hp := List.mem_of_find?_eq_some e
        have he := List.find?_some e
        rw [List.map_append, List.map_cons, List.nodup_append] at h
        exact absurd (of_decide_eq_true he) (h.2.2 _ (List.mem_map.mpr ⟨p, hp, rfl⟩) _ (List.mem_cons_self ..))
    show mergeK (putK acc k v) more = _
    rw [putK_new v hk, merge_new more (acc ++ [(k, v)]) (by rwa [List.append_assoc]), List.append_assoc]
    rfl
theorem dz_new {ts : List (Str × Str)} (h : (ts.map (·.1)).Nodup) : mergeK [] (dz ts) = dz ts := by
  refine merge_new (dz ts) [] ?_
  rw [List.nil_append]
  unfold dz
  rw [List.map_map]
  have e : (((fun kv : Key × V => kv.1) ∘ fun p : Str × Str => ((Sum.inr p.1 : Key), V.str p.2)) : Str × Str → Key) = (fun s : Str => (Sum.inr s : Key)) ∘ fun p => p.1 := rfl
  rw [e, ← List.map_map]
  exact List.Pairwise.map _ (fun a b hab z => hab (Sum.inr.inj z)) h
theorem paired_at {α β : Type} {F : α → β → Prop} : ∀ {l : List α} {m : List β}, Paired F l m → ∀ {i : Nat} {a : α}, l[i]? = some a → ∃ b, m[i]? = some b ∧ F a b
  | _, _, .nil, i, a, h => by simp at h
  | _, _, .cons x t, 0, a, h => by cases h; exact ⟨_, rfl, x⟩
  | _, _, .cons x t, i + 1, a, h => paired_at t (by simpa using h)
theorem paired_imp {α β : Type} {F G : α → β → Prop} (h : ∀ a b, F a b → G a b) : ∀ {l : List α} {m : List β}, Paired F l m → Paired G l m
  | _, _, .nil => .nil
  | _, _, .cons x t => .cons (h _ _ x) (paired_imp h t)
/-! ### dicts of texts, written -/
def putZ (ts : List (Str × Str)) (k w : Str) : List (Str × Str) :=
  if (ts.any fun p => decide (p.1 = k)) = true then ts.map (fun p => if p.1 = k then (p.1, w) else p) else ts ++ [(k, w)]
theorem putZ_dz (ts : List (Str × Str)) (k w : Str) : putK (dz ts) (Sum.inr k : Key) (.str w) = dz (putZ ts k w) := by
  unfold putK putZ dz
  have e : ((ts.map fun p => ((Sum.inr p.1 : Key), V.str p.2)).any fun kv => decide (kv.1 = (Sum.inr k : Key))) = ts.any fun p => decide (p.1 = k) := by
    rw [List.any_map]
    congr 1
    funext p
    show decide ((Sum.inr p.1 : Key) = Sum.inr k) = _
    rw [key_rr]
  rw [e]
  split
  · rw [List.map_map, List.map_map]
    apply List.map_congr_left
    intro p _
    show (if (Sum.inr p.1 : Key) = Sum.inr k then _ else _) = ((Sum.inr (if p.1 = k then (p.1, w) else p).1 : Key), V.str (if p.1 = k then (p.1, w) else p).2)
    by_cases h : p.1 = k
    · rw [if_pos (congrArg Sum.inr h), if_pos h]
    · rw [if_neg (fun z => h (Sum.inr.inj z)), if_neg h]
  · rw [List.map_append]; rfl
theorem putZ_keys (ts : List (Str × Str)) (k w : Str) : (putZ ts k w).map (·.1) = if (ts.any fun p => decide (p.1 = k)) = true then ts.map (·.1) else ts.map (·.1) ++ [k] := by
  unfold putZ
  split
  · rw [List.map_map]
    apply List.map_congr_left
    intro p _
    show (if p.1 = k then (p.1, w) else p).1 = p.1
    split <;> rfl
  · rw [List.map_append]; rfl
theorem putZ_nd {ts : List (Str × Str)} (h : (ts.map (·.1)).Nodup) (k w : Str) : ((putZ ts k w).map (·.1)).Nodup := by
  rw [putZ_keys]
  split
  · exact h
  · rename_i hn
    rw [List.nodup_append]
    refine ⟨h, by simp, fun a ha b hb e => hn ?_⟩
    rw [List.mem_singleton] at hb
    obtain ⟨p, hp, rfl⟩ := List.mem_map.mp ha
    exact List.any_eq_true.mpr ⟨p, hp, decide_eq_true (e.trans hb)⟩
theorem putZ_len (ts : List (Str × Str)) (k w : Str) : (putZ ts k w).length ≤ ts.length + 1 := by
  have h := congrArg List.length (putZ_keys ts k w)
  rw [List.length_map] at h
  rw [h]
  split
  · rw [List.length_map]; omega
  · rw [List.length_append, List.length_map]; exact Nat.le_refl _
def mergeZ (ts more : List (Str × Str)) : List (Str × Str) := more.foldl (fun acc p => putZ acc p.1 p.2) ts
theorem mergeZ_dz : ∀ (more ts : List (Str × Str)), mergeK (dz ts) (dz more) = dz (mergeZ ts more)
  | [], ts => rfl
  | p :: more, ts => by
    show mergeK (putK (dz ts) (Sum.inr p.1 : Key) (.str p.2)) (dz more) = dz (mergeZ (putZ ts p.1 p.2) more)
    rw [putZ_dz, mergeZ_dz more]
theorem mergeZ_nd : ∀ (more : List (Str × Str)) {ts : List (Str × Str)}, (ts.map (·.1)).Nodup → ((mergeZ ts more).map (·.1)).Nodup
  | [], _, h => h
  | p :: more, _, h => mergeZ_nd more (putZ_nd h p.1 p.2)
theorem mergeZ_len : ∀ (more ts : List (Str × Str)), (mergeZ ts more).length ≤ ts.length + more.length
  | [], ts => Nat.le_refl _
  | p :: more, ts => by
    have h1 := mergeZ_len more (putZ ts p.1 p.2)
    have h2 := putZ_len ts p.1 p.2
    show (mergeZ (putZ ts p.1 p.2) more).length ≤ _
    rw [List.length_cons]
    omega
/-! ### a permutation of images -/
theorem perm_map {α β : Type} (f : α → β) : ∀ {zs ys : List β}, zs.Perm ys → ∀ L : List α, ys = L.map f → ∃ L' : List α, L'.Perm L ∧ zs = L'.map f := by
  intro zs ys h
  induction h with
  | nil =>
    intro L e
    cases L with
    | nil => exact ⟨[], .nil, rfl⟩
    | cons _ _ => cases e
  | cons x _ ih =>
    intro L e
    cases L with
    | nil => cases e
    | cons a L =>
      obtain ⟨e1, e2⟩ := List.cons.inj e
      obtain ⟨L', p, r⟩ := ih L e2
      exact ⟨a :: L', p.cons a, by rw [List.map_cons, ← r, ← e1]⟩
  | swap x y l =>
    intro L e
    match L, e with
    | a :: b :: L, e =>
      obtain ⟨e1, e2⟩ := List.cons.inj e
      obtain ⟨e3, e4⟩ := List.cons.inj e2
      exact ⟨b :: a :: L, List.Perm.swap a b L, by rw [List.map_cons, List.map_cons, e1, e3, e4]⟩
  | trans _ _ ih1 ih2 =>
    intro L e
    obtain ⟨L1, p1, r1⟩ := ih2 L e
    obtain ⟨L2, p2, r2⟩ := ih1 L1 r1
    exact ⟨L2, p2.trans p1, r2⟩
/-! ### pairs of texts, sorted -/
def pd (q : Addr × (Str × Str)) : V × PyData := (.ref q.1, .tuple [.str q.2.1, .str q.2.2])
theorem sort_pairs {as : List Addr} {ts : List (Str × Str)} (hl : as.length = ts.length) : ∃ L : List (Addr × (Str × Str)), L.Perm (as.zip ts) ∧ sortD (as.map V.ref) (ts.map fun p => PyData.tuple [.str p.1, .str p.2]) = (L.map (·.1)).map V.ref := by
  have e : (as.map V.ref).zip (ts.map fun p => PyData.tuple [.str p.1, .str p.2]) = (as.zip ts).map pd := by
    rw [List.zip_map]
    rfl
  obtain ⟨L, p, r⟩ := perm_map pd (List.mergeSort_perm ((as.map V.ref).zip (ts.map fun p => PyData.tuple [.str p.1, .str p.2])) (PySem.W.dataLe false (·.2))) (as.zip ts) e
  refine ⟨L, p, ?_⟩
  unfold sortD
  rw [r, List.map_map, List.map_map]
  rfl
theorem pairs_alike (ts : List (Str × Str)) : PySem.W.AllAlike (ts.map fun p => PyData.tuple [.str p.1, .str p.2]) := by
  intro d hd d' hd'
  obtain ⟨p, _, rfl⟩ := List.mem_map.mp hd
  obtain ⟨q, _, rfl⟩ := List.mem_map.mp hd'
  rfl
theorem pairs_sortable (ts : List (Str × Str)) : PySem.W.Sortable (ts.map fun p => PyData.tuple [.str p.1, .str p.2]) := by
  refine .inl fun d hd => ?_
  obtain ⟨p, _, rfl⟩ := List.mem_map.mp hd
  exact ⟨_, _, rfl⟩
theorem pairs_depth (ts : List (Str × Str)) : ∀ d ∈ ts.map (fun p => PyData.tuple [.str p.1, .str p.2]), d.depth ≤ 60 := by
  intro d hd
  obtain ⟨p, _, rfl⟩ := List.mem_map.mp hd
  simp only [PyData.depth, PyData.depthAll]
  decide
theorem paired_zip {α β : Type} {F : α → β → Prop} : ∀ {l : List α} {m : List β}, Paired F l m → ∀ q ∈ l.zip m, F q.1 q.2
  | _, _, .nil, q, h => by cases h
  | _, _, .cons x t, q, h => by
    rw [List.zip_cons_cons] at h
    rcases List.mem_cons.mp h with rfl | h
    · exact x
    · exact paired_zip t q h
theorem paired_of {α β : Type} {F : α → β → Prop} : ∀ L : List (α × β), (∀ q ∈ L, F q.1 q.2) → Paired F (L.map (·.1)) (L.map (·.2))
  | [], _ => .nil
  | q :: L, h => .cons (h q (List.mem_cons_self ..)) (paired_of L fun x hx => h x (List.mem_cons_of_mem _ hx))
theorem paired_mapR {α β γ : Type} {F : α → γ → Prop} (g : β → γ) : ∀ {l : List α} {m : List β}, Paired F l (m.map g) → Paired (fun a b => F a (g b)) l m
  | _, [], .nil => .nil
  | _, _ :: _, .cons x t => .cons x (paired_mapR g t)
theorem paired_mapR' {α β γ : Type} {F : α → γ → Prop} (g : β → γ) : ∀ {l : List α} {m : List β}, Paired (fun a b => F a (g b)) l m → Paired F l (m.map g)
  | _, _, .nil => .nil
  | _, _, .cons x t => .cons x (paired_mapR' g t)
theorem dp_pairs {K : PySem.W.Frag} {H : Hp} : ∀ {as : List Addr} {ts : List (Str × Str)}, Paired (fun (t : Addr) (p : Str × Str) => H t = some (.tup [.str p.1, .str p.2])) as ts → DpAll K H (as.map V.ref) (ts.map fun p => PyData.tuple [.str p.1, .str p.2])
  | _, _, .nil => .nil
  | _, _, .cons x t => .cons (.tup (stt x) (.cons (.str _) (.cons (.str _) .nil))) (dp_pairs t)
end HS
/-! y = {k: v for ..}: a dict comprehension given to a local name -/
namespace HD
open PySem PySem.Spec PySem.Calls PyProof.Rows L2
section
variable {X : Cx}
theorem sw_dict {kx vx : Expr} {gs : List Comprehension} {scope : Scope} {pos py : Pos} {y : Str} {l : Nat} {env : Env} (hk : env.scope.kind = .function) (hy : env.scope.names.lookup y = some .local) (hl : (py.line == pos.line) = true)
    (ha : (scope.names.any fun (n, k) => n == y && (k == .local || k == .cell)) = false) : swapsWith (.DictComp kx vx gs scope pos) (some (.Name y py)) l env = pure true := by
  have k1 : env.blockKind = .function := by
    unfold Env.blockKind
    rw [hk] <;> rfl
  have k2 : env.kindOf y = some .local := hy
  unfold swapsWith
  simp only [k1, k2, ha, Expr.pos, hl]
  rfl
theorem ps_setDc {i : Nat} {y : Str} {py : Pos} {kx vx tg iter : Expr} {ifs : List Expr} {scope : Scope} {own : List (Str × Nat)} {pos spos : Pos} {wi : TI} {g : TG} {tt : TT} {tk tv : TE} (hc : X.calm = true) (hN : X.N.Nodup) (hy : X.N[i]? = some y) (hyl : X.env.scope.names.lookup y = some .local)
    (hsw : swapsWith (.DictComp kx vx [⟨tg, iter, ifs, 0⟩] scope pos) (some (.Name y py)) spos.line X.env = pure true) (hi : PI X tg iter wi) (ok : BlkOk X.N X.env.scope scope own)
    (hg : ∀ (s : Shared) (H : Hp) (C : Addr) (cl : List (Str × Addr)) (fp : List Addr), PG (X.blk s H scope (compEnvC scope cl C X.env) fp) tg g) (ht : ∀ (s : Shared) (H : Hp) (C : Addr) (cl : List (Str × Addr)) (fp : List Addr), PTs (X.blk s H scope (compEnvC scope cl C X.env) fp) ifs tt)
    (hk : ∀ (s : Shared) (H : Hp) (C : Addr) (cl : List (Str × Addr)) (fp : List Addr), PE (X.blk s H scope (compEnvC scope cl C X.env) fp) kx tk)
    (he : ∀ (s : Shared) (H : Hp) (C : Addr) (cl : List (Str × Addr)) (fp : List Addr), PE (X.blk s H scope (compEnvC scope cl C X.env) fp) vx tv) (hs : ∀ x, foldedSetIterable iter X.env x = pure x := by intro _; rfl) :
    PS X (.Assign [.Name y py] (.DictComp kx vx [⟨tg, iter, ifs, 0⟩] scope pos) spos) (tAsg (tDc wi g tt tk tv (own.map (·.2))) (gName i)) := by
  refine ⟨fun pins s σ H D I h => ?_⟩
  rw [exec_Assign_Name_used _ _ _ _ hsw]
  refine wpAny_bind (wpAny_standAt (wpAny_bind ?_))
  show wpAny _ X.A (do let _ ← comprehension (.DictComp kx vx [⟨tg, iter, ifs, 0⟩] scope pos) scope X.env (firstIterPos [⟨tg, iter, ifs, 0⟩] pos) newDict false (eval iter X.env) (some (assign (.Name y py) X.env))) _ _ s
  have h : tDc wi g tt tk tv (own.map (·.2)) σ H (fun x H1 => gName i x σ H1 D.nx) := h
  refine wpAny_bind (thn (dc_core (Qf := fun _ s' => SP X pins D .next s') hc hN I hi ok hg ht hk he hs h fun L C s' m H' I' q hn f => ?_) fun _ s' hq => wpAny_pure (wpAny_pure hq))
  show wpAny _ _ (assign (.Name y py) X.env (.ref L)) _ _ _
  refine wpAny_assign_Name (store_ok2 (v := V.ref L) I' hN hy (.inl hyl) rfl (fun s2 I2 ⟨a, sb, ha⟩ => ?_) (.inr hyl))
  obtain ⟨f0, f1, f2, f3, f4, f5⟩ := f
  have haC : C ≠ a := ha.elim (fun z => z ▸ f1) fun z e => f4 y a z e.symm
  exact ⟨m, hn.sameBut sb haC, fun h3 sb3 => ⟨_, H', I2.turned (t' := s2.toks) (fun b o hb e => (sb3.2 b hb).trans e) f0 f1 f3 f4 f5, q⟩⟩
end
end HD
/-! tuples: t + u of any two; t[lo:hi], the whole too -/
namespace HT2
open PySem PySem.Spec PySem.Calls PyProof.Rows L2 HT
section
variable {X : Cx}
/-- t + u: the other one where one of them is empty -/
def rCatA (K : PySem.W.Frag) : R2 := fun x y H Q => ∃ a b xs ys, x = .ref a ∧ y = .ref b ∧ SqT K H a xs ∧ SqT K H b ys ∧ xs.length + ys.length ≤ sizeLine ∧
  (xs = [] → Q (.ref b) H) ∧ (xs ≠ [] → ys = [] → Q (.ref a) H) ∧ (xs ≠ [] → ys ≠ [] → ∀ p, H p = none → Q (.ref p) (upd H p (.tup (xs ++ ys))))
theorem op_catA : OpR X (binaryOp .Add) (rCatA X.K) := by
  intro pins s σ H x y v u Q I rx ry h
  obtain ⟨a, b, xs, ys, rfl, rfl, ha, hb, hz, q0, q1, q2⟩ := h
  by_cases hx : xs = []
  · subst hx
    cases rx
    cases ry
    obtain ⟨its, r1, p1, _⟩ := I.tuple ha
    obtain ⟨its2, r2, p2, _⟩ := I.tuple hb
    cases r1
    obtain ⟨⟨c1, d1, t1, l1⟩, o1, k1, n1, m1⟩ := id p1
    obtain ⟨⟨c2, d2, t2, l2⟩, o2, k2, n2, m2⟩ := id p2
    simp only at k1 m1 k2 m2
    subst k1 m1 k2 m2
    exact concat_meets ⟨_, o1, rfl⟩ ⟨_, o2, rfl⟩ noFill_tuple_add seq_tuple_add PySem.F.slot_tuple_add PySem.F.entry_tuple_add (PySem.F.args_tuple_add_2 _ _)
      (tuple_addW0 a b _ its2.toArray n1 n2 d1 d2 l1 l2 (by simp)) ⟨o1, o2, .ref b, H, I, rfl, q0 rfl⟩
  · exact op_catT pins s σ H _ _ v u Q I rx ry ⟨a, b, xs, ys, rfl, rfl, ha, hb, hx, hz, q1 hx, q2 hx⟩
/-- the whole of a tuple is the tuple -/
theorem slice_whole {prog : Program} {w : World} {A : Around} {E : Value → Shared → Prop} {s : Shared} {t sl : Addr} {items : Array Value} {vl vu : Value} {lo hi : Option Int} {Q : Value → Shared → Prop} (ht : IsTup s.heap t items) (hs : s.heap.IsSliceOf sl vl vu .none) (pl : IsPart vl lo) (pu : IsPart vu hi)
    (hw : sIx items.size 0 lo = 0 ∧ sIx items.size items.size hi = items.size) (h : Q (.ref t) s) : wpAny (model prog w) A (getItem (.ref t) (.ref sl)) Q E s := by
  obtain ⟨os, hos, hcs, hds⟩ := id hs
  have hTs : s.TypeIs (.ref sl) "slice" := ⟨os, hos, hcs⟩
  unfold getItem
  refine wpAny_holding ?_
  refine wpAny_bind (wpAny_sequenceKey ht.typeIs (by decide) ?_)
  refine wpAny_bind (wpAny_callSpecial?_slot (name := Str.ofString "__getitem__") ht.typeIs PyProof.Rows.slot_tuple_getitem
    (wpAny_call_entry PyProof.Rows.slot_tuple_getitem ht.typeIs entry_tuple_getitem ?_ (args_tuple_getitem _ _)))
  show wpAny _ _ (Builtin.Tuple.tupleItemsOf (.ref t) >>= _) _ _ s
  refine wpAny_bind (tupleItemsOf_ ht ?_)
  refine wpAny_bind (wpAny_typeOf hTs ?_)
  rw [if_pos (by decide)]
  refine wpAny_bind (sliceApplied_gen hs pl pu ?_)
  have yes : (((sIx items.size 0 lo : Nat) : Int) == 0 && (1 : Int) == 1 && (sIx items.size items.size hi - sIx items.size 0 lo) == items.size) = true := by
    rw [hw.1, hw.2]
    simp
  show wpAny _ _ (if (((sIx items.size 0 lo : Nat) : Int) == 0 && (1 : Int) == 1 && (sIx items.size items.size hi - sIx items.size 0 lo) == items.size) = true then _ else _) _ _ s
  rw [if_pos yes]
  unfold Builtin.Tuple.tupleIsExact
  refine wpAny_bind (wpAny_bind (wpAny_typeOf ht.typeIs (wpAny_pure ?_)))
  rw [if_pos (by decide)]
  exact wpAny_bind (wpAny_rule (wpAny_pure ⟨_, rfl, wpAny_pure h⟩))
/-- t[lo:hi] -/
def rSlA (K : PySem.W.Frag) : V → Option Int → Option Int → Hp → VK → Prop := fun x lo hi H Q => ∃ a xs, x = .ref a ∧ SqT K H a xs ∧
  (HT.sIx xs.length 0 lo = 0 ∧ HT.sIx xs.length xs.length hi = xs.length → Q (.ref a) H) ∧ (¬ (HT.sIx xs.length 0 lo = 0 ∧ HT.sIx xs.length xs.length hi = xs.length) → ∀ p, H p = none → Q (.ref p) (upd H p (.tup (cutV xs lo hi))))
theorem sl_tupA : SlR X (rSlA X.K) := by
  intro pins s σ H x v vl vu lo hi sl Q I rx hs pl pu h
  obtain ⟨a, xs, rfl, hx, q1, q2⟩ := h
  by_cases hw : HT.sIx xs.length 0 lo = 0 ∧ HT.sIx xs.length xs.length hi = xs.length
  · cases rx
    obtain ⟨its, r, ht, hz⟩ := I.tuple hx
    have hlen : its.toArray.size = xs.length := by rw [List.size_toArray]; exact r.length.symm
    refine ⟨"tuple", _, PyProof.Rows.slot_tuple_getitem.lookup, ht.typeIs, ?_⟩
    exact slice_whole ht hs pl pu (by rw [hlen]; exact hw) ⟨.ref a, H, I, rfl, q1 hw⟩
  · exact sl_tup pins s σ H _ v vl vu lo hi sl Q I rx hs pl pu ⟨a, xs, rfl, hx, hw, q2 hw⟩
end
end HT2
/-! set(xs) of a list of texts: any number of them; len(set(xs)) -/
namespace HV
open PySem PySem.Spec PyProof.Rows
/-- how many unlike ones among the first i -/
def uq (xs : List Str) : Nat → Nat
  | 0 => 0
  | i + 1 => if (xs.take i).any (· == xs.getD i Str.empty) then uq xs i else uq xs i + 1
theorem uq_le (xs : List Str) : ∀ i, uq xs i ≤ i
  | 0 => Nat.le_refl _
  | i + 1 => by
    have := uq_le xs i
    unfold uq
    split <;> omega
theorem any_take {xs : List Str} {i : Nat} (h : i < xs.length) (k : Str) : ((xs.take i).any (· == k) || decide (k = xs.getD i Str.empty)) = (xs.take (i + 1)).any (· == k) := by
  have e : xs.getD i Str.empty = xs[i] := by rw [List.getD_eq_getElem?_getD, List.getElem?_eq_getElem h]; rfl
  rw [List.take_add_one, List.getElem?_eq_getElem h, List.any_append, e]
  congr 1
  show decide (k = xs[i]) = ([xs[i]].any (· == k))
  rw [List.any_cons, List.any_nil, Bool.or_false]
  exact Bool.eq_iff_iff.mpr ⟨fun q => beq_iff_eq.mpr (of_decide_eq_true q).symm, fun q => decide_eq_true (beq_iff_eq.mp q).symm⟩
theorem uq_all {xs : List Str} : ∀ i, i ≤ xs.length → (uq xs i = i ↔ (xs.take i).Nodup)
  | 0, _ => by simp [uq]
  | i + 1, hi => by
    have ih := uq_all i (Nat.le_of_succ_le hi)
    have hl := uq_le xs i
    have e : xs.getD i Str.empty = xs[i] := by rw [List.getD_eq_getElem?_getD, List.getElem?_eq_getElem hi]; rfl
    have e2 : xs.take (i + 1) = xs.take i ++ [xs[i]] := by rw [List.take_add_one, List.getElem?_eq_getElem hi]; rfl
    rw [e2, List.nodup_append]
    unfold uq
    rw [e]
    cases hb : (xs.take i).any (· == xs[i]) with
    | true =>
      rw [if_pos rfl]
      obtain ⟨y, hy, ey⟩ := List.any_eq_true.mp hb
      refine ⟨fun q => by omega, fun q => ?_⟩
      exact absurd (beq_iff_eq.mp ey) (q.2.2 y hy xs[i] (List.mem_singleton.mpr rfl))
    | false =>
      rw [if_neg Bool.false_ne_true]
      refine ⟨fun q => ⟨ih.mp (by omega), (by simp), fun a ha b hb2 ab => ?_⟩, fun q => by have := ih.mpr q.1; omega⟩
      rw [List.mem_singleton.mp hb2] at ab
      have : (xs.take i).any (· == xs[i]) = true := List.any_eq_true.mpr ⟨a, ha, beq_iff_eq.mpr ab⟩
      rw [hb] at this
      cases this
section
variable {prog : Program} {w : World} {A : Around} {R : Result → Shared → Prop} {I : Addr} {fp wr : List Addr} {G : Array GenState → Array GenState → Prop} {n : Nat} {P : Nat → Value → Prop} {St : Nat → Shared → Prop}
/-- the set after i of the texts -/
def At (prog : Program) (w : World) (xs : List Str) (S : Addr) (i : Nat) (h : Heap) : Prop := h.SetOf (PySem.strKind prog w) S (fun k' => (xs.take i).any (· == k')) (uq xs i)
theorem At.keep {xs : List Str} {S : Addr} {i : Nat} {h h' : Heap} (a : At prog w xs S i h) (k : ∀ o, h.get? S = some o → h'.get? S = some o) : At prog w xs S i h' := by
  obtain ⟨o, es, ep, t, ho, rest⟩ := a
  exact ⟨o, es, ep, t, k o ho, rest⟩
theorem loopV (W : WalksS prog w A.in1 I fp wr G n P St) (S : Addr) (nf : S ∉ fp) (xs : List Str) (len : xs.length = n) (few : n + 1 < scanBound) (val : ∀ i v, P i v → ∃ t, v = .str (xs.getD i Str.empty) t) :
    ∀ (d i : Nat) (s : Shared), i + d = n → St i s → At prog w xs S i s.heap → (∀ s', Moved (S :: wr) G s s' → At prog w xs S n s'.heap → R (.ok (.ret .none)) s') →
      codeAny (model prog w) A (.builtin "set.update.loop" ⟨[.ref S, .ref I], []⟩) R s := by
  have nw : S ∉ wr := fun h => nf (W.sub _ h)
  have grow : ∀ b ∈ wr, b ∈ S :: wr := fun b hb => List.mem_cons_of_mem _ hb
  intro d
  induction d with
  | zero =>
    rintro i s rfl hst hS hR
    refine codeAny_builtin PyProof.Rows.F.entry_set_update_loop ?_
    rw [Around.under_plainId PyProof.Rows.F.plain_set_update_loop _]
    show wpAny _ A.in1 (pyNext (.ref I) >>= _) _ _ s
    refine wpAny_bind (W.done s _ _ hst fun s' mv => ?_)
    exact wpAny_pure (hR s' (mv.mono grow) (hS.keep fun o => mv.heap S o nw))
  | succ d ih =>
    intro i s hi hst hS hR
    have lt : i < n := by omega
    refine codeAny_builtin PyProof.Rows.F.entry_set_update_loop ?_
    rw [Around.under_plainId PyProof.Rows.F.plain_set_update_loop _]
    show wpAny _ A.in1 (pyNext (.ref I) >>= _) _ _ s
    refine wpAny_bind (W.item i s _ _ lt hst fun v s' pv hst' mv => ?_)
    obtain ⟨t, rfl⟩ := val i v pv
    have hS' := hS.keep fun o => mv.heap S o nw
    show wpAny _ A.in1 (holding [Value.str (xs.getD i Str.empty) t] (setAdd S (.str (xs.getD i Str.empty) t)) >>= _) _ _ s'
    refine wpAny_bind (wpAny_holding ?_)
    unfold setAdd
    refine wpAny_holding (wpAny_bind ((PySem.strKind prog w).pyHash (k := xs.getD i Str.empty) (strKind_is _ _ _ _) ?_))
    refine wpAny_setAddHashed_of (knd := PySem.strKind prog w) (s := { s' with toks := s'.toks + 1 }) (strKind_is _ _ _ _) rfl hS' (by have := uq_le xs i; omega) fun h' same hS2 => ?_
    have next : At prog w xs S (i + 1) h' := PyProof.Rows.SetOf_congr hS2 (fun k => any_take (by omega) k) rfl
    refine wpAny_pure ⟨plainId_quiet PyProof.Rows.F.plain_set_update_loop _, ih (i + 1) _ (by omega) (W.frame _ s' _ _ hst' (Nat.le_succ _) fun b hb o e => ?_) next fun s'' mv2 hS3 => hR s'' (Moved.trans W.gtrans ((mv.mono grow).then_heap (Nat.le_succ _) fun b o hb e => ?_) mv2) hS3⟩
    · rw [same.2 b (fun h => nf (h ▸ hb))]
      exact e
    · rw [same.2 b (fun h => hb (h ▸ List.mem_cons_self))]
      exact e
end
section
variable {prog : Program} {w : World} {A : Around} {E : Value → Shared → Prop} {s : Shared}
/-- the empty set that set.__new__ lays -/
abbrev bare (led : Bool) : Obj := { cls := .type "set", dict := none, data := .set #[] 0 (.fresh 0 0 led) }
set_option maxHeartbeats 3200000 in
theorem set_texts {l : Addr} {items : Array Value} {xs : List Str} {Q : Value → Shared → Prop} (calm : A.handled = none) (hl : s.heap.IsList l items) (hi : PyProof.Rows.StrsAre items.toList xs) (few : xs.length + 1 < scanBound)
    (h : ∀ (h' : Heap) (tk : Nat), At prog w xs s.heap.objs.size xs.length h' → (∀ b o, b < s.heap.objs.size → s.heap.get? b = some o → h'.get? b = some o) → Q (.ref s.heap.objs.size) { s with heap := h', toks := tk }) :
    wpAny (model prog w) A (call (.type "set") [.ref l]) Q E s := by
  have len : xs.length = items.size := by rw [← StrsAre.len_eq hi, Array.length_toList]
  obtain ⟨c, tl, hmro⟩ := PySem.F.called_set.mro
  have hmade := PySem.F.called_set.made
  have hsub := PySem.F.called_set.sub
  have h1 := PySem.F.called_set.notType
  have h2 := PySem.F.called_set.canCreate
  have hct := PySem.F.typeCall_set_1 (.ref l)
  refine wpAny_call (codeAny_of_tree ?_)
  show wpAny _ _ (callAny (.type "set") _) _ _ _
  refine wpAny_pure ⟨Code.quiet_builtin _ (by decide +kernel), codeAny_builtin PySem.F.entry_type_call ?_⟩
  rw [Around.under_plain (weight_type_call_type "set" [.ref l] []) rfl]
  repeat (any_goals (first | assumption | wp_step))
  refine codeAny_mono (code_set_new_1 (.ref l) (E := E) (Q₁ := fun obj s₁ => ∃ led, obj = .ref s.heap.objs.size ∧ s₁ = { s with heap := s.heap.push (bare led) }) fun led => ⟨led, rfl, rfl⟩) fun r s₁ hr => ?_
  rcases r with e | fl
  · exact hr
  cases fl with
  | ret obj =>
    obtain ⟨led, rfl, rfl⟩ := hr
    have hS : (s.heap.push (bare led)).get? s.heap.objs.size = some (bare led) := Heap.get?_push_size _ rfl
    have hT : Shared.TypeIs { s with heap := s.heap.push (bare led) } (.ref s.heap.objs.size) "set" := ⟨_, hS, rfl⟩
    have hli := PySem.F.called_set.init.lookup
    have hbi := PySem.F.called_set.init.bind (.ref s.heap.objs.size)
    repeat (any_goals (first | assumption | wp_step))
    refine codeAny_mono (codeAny_call_builtin (R := wants (fun r s₂ => r = .none ∧ ∃ h' tk, s₂ = { s with heap := h', toks := tk } ∧ At prog w xs s.heap.objs.size xs.length h' ∧ (∀ b o, b < s.heap.objs.size → s.heap.get? b = some o → h'.get? b = some o)) E)
      PySem.F.called_set.init.plain PySem.F.entry_set_init (check_set_init_1 hT ?_)) fun r₂ s₂ hr₂ => ?_
    · obtain ⟨⟨ocls, odict, odata, oslots⟩, hol, hcl, nl, hdl⟩ := hl
      simp only at hcl hdl
      subst hcl; subst hdl
      have hlS : l < s.heap.objs.size := Heap.lt_size hol
      have hol' := Heap.get?_push_of_some (bare led) hol
      have hl1 : (s.heap.push (bare led)).IsList l items := ⟨_, hol', rfl, nl, rfl⟩
      have hsls := PySem.F.sub_list_set
      have hslf := PySem.F.sub_list_frozenset
      have hne : (Value.type "list" == Value.type "dict") = false := by decide
      unfold Builtin.«set.__init__» noKeywords Builtin.Frozenset.updateFrom
      generalize hPI : pyIter = PI
      wp_walk
      subst hPI
      refine wpAny_pyIter_list hl1 (wpAny_bind (wpAny_runValue ?_))
      have sz : (s.heap.push (bare led)).objs.size = s.heap.objs.size + 1 := Heap.size_push ..
      have calm3 : A.in1.in1.in1.handled = none := by simp [calm]
      have hval : ∀ (i : Nat) (v : Value), items[i]? = some v → ∃ t, v = .str (xs.getD i Str.empty) t := fun i v hv => SS.strs_at hi i v (by rw [Array.getElem?_toList]; exact hv)
      refine loopV (n := items.size) ((Walks.list calm3 _ l (by rw [sz]; exact Nat.ne_of_lt (Nat.lt_succ_of_lt hlS)) items).toS) s.heap.objs.size (by rw [sz]; simp only [List.mem_cons, List.not_mem_nil, or_false, not_or]; exact ⟨Nat.ne_of_lt (Nat.lt_succ_self _), Nat.ne_of_gt hlS⟩) xs len (by omega) hval items.size 0 _ (by omega)
        ⟨⟨_, Heap.get?_push_size _ rfl, rfl, rfl⟩, (hl1.push _)⟩ ?zS ?zR
      case zS =>
        have hget := Heap.get?_push_of_some ({ cls := .type "list_iterator", data := .fields #[.ref l, .int 0 0] } : Obj) hS
        exact PyProof.Rows.SetOf_congr ((PyProof.Rows.setObjOf_fresh (knd := PySem.strKind prog w) led).setOf hget (by unfold scanBound; omega)) (fun _ => rfl) rfl
      case zR =>
        intro s' mv hS'
        obtain ⟨h', g', d', tk', os'⟩ := s'
        cases (show g' = s.gens from mv.gens)
        cases (show d' = s.drawn from mv.drawn)
        cases (show os' = s.os from mv.os)
        refine wpAny_pure (wpAny_pure ⟨rfl, h', tk', rfl, by rw [len]; exact hS', fun b o hb e => ?_⟩)
        exact mv.heap b o (by rw [sz]; simp only [List.mem_cons, List.not_mem_nil, or_false, not_or]; exact ⟨Nat.ne_of_lt hb, Nat.ne_of_lt (Nat.lt_succ_of_lt hb)⟩) (Heap.get?_push_of_some _ (Heap.get?_push_of_some _ e))
    · rcases r₂ with e | fl₂
      · exact hr₂
      cases fl₂ with
      | ret r =>
        obtain ⟨rfl, h', tk, rfl, hS', hk'⟩ := hr₂
        repeat (any_goals (first | assumption | wp_step))
        exact h _ _ hS' hk'
      | _ => exact hr₂.elim
  | _ => exact hr.elim
end
section
open L2
/-- len(set(xs)), xs a list of texts -/
def tLenSetS (K : PySem.W.Frag) (ta : TE) : TE := fun σ H Q => ta σ H fun x H1 => ∃ (l : Addr) (xs : List Str), x = .ref l ∧ SqL K H1 l (xs.map V.str) ∧ xs.length ≤ 1000 ∧ Q (.int (uq xs xs.length : Nat)) H1
theorem pe_lenSetS {X : Cx} {a : Expr} {ta : TE} {p p2 q pos : Pos} (hg : Gl X "len") (hm : X.mg "len" = none) (hg2 : Gl X "set") (hm2 : X.mg "set" = none) (ha : PE X a ta) (hc : X.calm = true := by rfl)
    (na : starEach [a] X.env = (false, eval a X.env) :: starEach [] X.env := by rfl) : PE X (.Call (.Name "len" p) [.Call (.Name "set" p2) [a] [] q] [] pos) (tLenSetS X.K ta) := by
  refine ⟨fun pins s σ H Q I h => ?_⟩
  refine Call_ (ld_blt I hg hm boot_len (PyProof.Rows.callWith_builtin1 (PyProof.Rows.args_cons ?_ rfl) rfl rfl))
  refine Call_ (ld_blt I hg2 hm2 boot_set (PyProof.Rows.callWith_type1 (PyProof.Rows.args_cons (thn (ha.run pins s σ H _ I h) fun v s1 ⟨x, H1, I1, r1, q1⟩ => PyProof.Rows.args_nil ?_) na) na rfl))
  obtain ⟨l, xs, rfl, hq, hl, q1⟩ := q1
  cases r1
  obtain ⟨its, r, pl, _⟩ := I1.list hq
  refine set_texts (I1.ok.hd hc) pl.isList (by simpa using strsAre_of r) (by unfold scanBound; omega) fun h' tk hS hk => PyProof.Rows.args_nil ?_
  obtain ⟨o, es, ep, t, ho, hex, hd, _, _, _, hf, hn⟩ := hS
  have I2 : Inv X pins σ H1 { s1 with heap := h', toks := tk } := I1.kept fun b o e => hk b o (Heap.lt_size e) e
  have hu := uq_le xs xs.length
  exact call_len_set ho hex hd hf (by rw [hn] <;> omega) ⟨.int (uq xs xs.length), H1, I2.tok _, ⟨_, by rw [hn]⟩, q1⟩
end
end HV
/-! Base.__init__(self, ..): an own class over ValueError that has no __init__ of its own -/
namespace HY
open PySem PySem.Spec PyProof.Rows L2
/-- what the written part says of the base -/
structure BaseI (K : PySem.W.Frag) (Y : Addr) : Prop where
  ga : PySem.W.specialIn K (.ref Y) "__getattribute__" = some (some (.builtin "type.__getattribute__"))
  ty : PySem.W.typeIn K (.ref Y) = some (.type "type")
  rd : PySem.W.readsIn K Y (.type "type") = true
  it : PySem.W.findCls K (.ref Y) (.type "type") "__init__" = some (.val (.builtin "ValueError.__init__"))
section
variable {X : Cx} {e : Expr} {es : List Expr} {ta : TA} {x : Str} {Y : Addr} {p1 p2 pos : Pos}
theorem pe_baseinit {pl : Sem Bool} (B : BaseI X.K Y) (hg : Gl X x) (hm : X.mg x = some (.ref Y)) (ha : PA X (e :: es) ta) (hdb : (x == ("__debug__" : Str)) = false := by decide)
    (hc : eval (.Call (.Attribute (.Name x p1) "__init__" p2) (e :: es) [] pos) X.env = (do
      let ov ← eval (.Name x p1) X.env
      standAt p2.atName
      let (f, first) ← holding [ov] (getMethod ov "__init__" pl)
      callWith pos f first (backTo pos (starEach (e :: es) X.env)) (backToKw pos (keywordEach [] X.env))) := by rfl)
    (he : starEach (e :: es) X.env = (false, eval e X.env) :: starEach es X.env := by rfl) (hpl : (backTo pos (starEach es X.env)).any (·.1) = false := by rfl) :
    PE X (.Call (.Attribute (.Name x p1) "__init__" p2) (e :: es) [] pos) (tVeI X.K ta) := by
  refine ⟨fun pins s σ H Q I h => ?_⟩
  refine PySem.W.methodCall_KW (ld_glob I hg hm ?_ hdb) hc
  obtain ⟨m, fr⟩ := I.fr
  refine PySem.W.method_of_cls fr I.ok.mod.kin B.ga (PySem.W.cls_val fr I.ok.mod.kin B.ty B.rd B.it (by decide +kernel) ?_)
  show wpAny _ _ (callWith pos (Value.builtin "ValueError.__init__") [] (backTo pos (starEach (e :: es) X.env)) []) _ _ _
  refine PyProof.Rows.callWith_method1 (thn (ha.run pos pins _ σ H _ (I.tok _) h) fun us s1 ⟨vs, H1, I1, r1, a, C, ws, ev, hl, T, ea, q⟩ => ?_) he hpl
  subst ev
  cases r1 with
  | @cons _ u0 _ ur ra rw' =>
    obtain rfl : u0 = Value.ref a := ra
    have hlen : ur.length ≤ sizeLine := by
      rw [← Paired.length rw', sizeLine_eq]
      omega
    exact oinit_ok T I1 ea hlen fun s' J => ⟨.non, H1, J, rfl, q⟩
end
end HY
/-! own exception classes told by the head; raise C(e); C(e, k = v) that may raise in a try -/
namespace HQ
open PySem PySem.Spec PySem.Calls PyProof.Rows L2 He
/-! ### what the head tells of such a class -/
def exB1 (K : PySem.W.Frag) (C : Addr) : Bool := match K.lookup C with
  | some ⟨.type t, _, .cls cd, sl⟩ => (match cd.mro, sl.toList with
    | .ref D :: bm, [_, _, _, _, some (.builtin n), _] => decide (t = "type") && (decide (D = C) && (decide (n = "ValueError.__new__") && (!cd.hasDel && (cd.hasDict && PySem.HandSPX.refsVE bm))))
    | _, _ => false)
  | _ => false
def exB (K : PySem.W.Frag) (C : Addr) : Bool := exB1 K C && (decide (PySem.W.findIn K (.ref C) "__setattr__" = some (some (.builtin "object.__setattr__"))) &&
  (decide (PySem.W.subIn K (.ref C) (.type "BaseException") = some true) && (decide (PySem.W.typeIn K (.ref C) = some (.type "type")) && (PySem.W.keepIn K (.ref C) && xfB K C))))
theorem exB1_ok {K : PySem.W.Frag} {C : Addr} (h : exB1 K C = true) : ∃ nm q N bs bm sn sub ab col dd k0 k1 k2 k3 k5, K.lookup C = some (excClassObj nm q C N bs bm true sn sub ab col dd k0 k1 k2 k3 k5 "ValueError.__new__") ∧ PySem.HandSPX.refsVE bm = true := by
  unfold exB1 at h
  split at h
  · rename_i t dd cd sl ho
    split at h
    · rename_i D bm k0 k1 k2 k3 n k5 hm hs
      obtain ⟨e1, h⟩ := ba h
      obtain ⟨e2, h⟩ := ba h
      obtain ⟨e3, h⟩ := ba h
      obtain ⟨e4, h⟩ := ba h
      obtain ⟨e5, e6⟩ := ba h
      have e1 := of_decide_eq_true e1
      have e2 := of_decide_eq_true e2
      have e3 := of_decide_eq_true e3
      obtain ⟨nm, bs, mro, ns, qn, hd, sn, sub, ab, col, del⟩ := cd
      dsimp only at hm e4 e5
      subst hm e1 e2 e3 e5
      have e4 : del = false := by cases del <;> first | rfl | cases e4
      subst e4
      have hsl : sl = #[k0, k1, k2, k3, some (.builtin "ValueError.__new__"), k5] := by
        obtain ⟨l⟩ := sl
        simp only at hs
        rw [hs]
      subst hsl
      exact ⟨nm, qn, ns, bs, bm, sn, sub, ab, col, dd, k0, k1, k2, k3, k5, ho, e6⟩
    · cases h
  · cases h
theorem exB_ok {K : PySem.W.Frag} {C : Addr} (h : exB K C = true) : OexC K C ∧ XfC K C := by
  obtain ⟨h1, h⟩ := ba h
  obtain ⟨h2, h⟩ := ba h
  obtain ⟨h3, h⟩ := ba h
  obtain ⟨h4, h⟩ := ba h
  obtain ⟨h5, h6⟩ := ba h
  exact ⟨⟨exB1_ok h1, of_decide_eq_true h2, of_decide_eq_true h3, of_decide_eq_true h4, h5⟩, xfB_ok h6⟩
def inB (K : PySem.W.Frag) (C : Addr) : Bool := decide (PySem.W.findIn K (.ref C) "__init__" = some (some (.ref (ma K C "__init__")))) && decide (PySem.W.typeIn K (.ref (ma K C "__init__")) = some (.type "function"))
theorem inB_ok {K : PySem.W.Frag} {C : Addr} (h : inB K C = true) : PySem.W.findIn K (.ref C) "__init__" = some (some (.ref (ma K C "__init__"))) ∧ PySem.W.typeIn K (.ref (ma K C "__init__")) = some (.type "function") := by
  obtain ⟨h1, h2⟩ := ba h
  exact ⟨of_decide_eq_true h1, of_decide_eq_true h2⟩
/-- the base whose __init__ is ValueError's -/
def bsB (K : PySem.W.Frag) (Y : Addr) : Bool := decide (PySem.W.specialIn K (.ref Y) "__getattribute__" = some (some (.builtin "type.__getattribute__"))) && (decide (PySem.W.typeIn K (.ref Y) = some (.type "type")) &&
  (PySem.W.readsIn K Y (.type "type") && (match PySem.W.findCls K (.ref Y) (.type "type") "__init__" with
    | some (.val (.builtin n)) => decide (n = "ValueError.__init__")
    | _ => false)))
theorem bsB_ok {K : PySem.W.Frag} {Y : Addr} (h : bsB K Y = true) : HY.BaseI K Y := by
  obtain ⟨h1, h⟩ := ba h
  obtain ⟨h2, h⟩ := ba h
  obtain ⟨h3, h4⟩ := ba h
  refine ⟨of_decide_eq_true h1, of_decide_eq_true h2, h3, ?_⟩
  cases e : PySem.W.findCls K (.ref Y) (.type "type") "__init__" with
  | none => rw [e] at h4; cases h4
  | some r =>
    rw [e] at h4
    cases r with
    | val u =>
      cases u with
      | builtin n =>
        have e2 : n = "ValueError.__init__" := of_decide_eq_true h4
        rw [e2]
      | _ => cases h4
    | _ => cases h4
/-! ### raise C(e) -/
/-- __init__(self, y): self.f = y, and no more -/
def spEx (C : Addr) (f : Str) : Sp := fun vs H Q _ => ∃ (a : Addr) (y : V), vs = [.ref a, y] ∧ H a = some (exo a C none) ∧ ∀ d, H d = none → d ≠ a → Q .non (upd (upd H d (exd d [(f, y)])) a (exo a C (some d)))
/-- behind the making: the new error's own dict -/
theorem mkO_of {C : Addr} {f : Str} {y : V} {H : Hp} {Q : XK} (h : ∀ d, H d = none → Q (.ref C) (some d) (upd H d (.xd [(f, y)]))) :
    [y].length ≤ 1000 ∧ ∀ a, H a = none → spEx C f (.ref a :: ([y] ++ [])) (upd H a (exo a C none)) (fun v H2 => v = .non ∧ ∃ (d : Addr) (fs : List (Str × V)), H2 a = some (exo a C (some d)) ∧ H2 d = some (exd d fs) ∧ H d = none ∧ Q (.ref C) (some d) (upd (del H2 a) d (.xd fs))) (fun _ _ _ => False) := by
  refine ⟨by show 1 ≤ 1000; decide, fun a na => ⟨a, y, rfl, upd_same, fun d nd hda => ⟨rfl, d, [(f, y)], upd_same, by rw [upd_ne hda, upd_same], by rwa [upd_ne hda] at nd, ?_⟩⟩⟩
  have nd' : H d = none := by rwa [upd_ne hda] at nd
  have e : upd (del (upd (upd (upd H a (exo a C none)) d (exd d [(f, y)])) a (exo a C (some d))) a) d (.xd [(f, y)]) = upd H d (.xd [(f, y)]) := by
    funext b
    by_cases hb : b = d
    · subst hb; rw [upd_same, upd_same]
    · rw [upd_ne hb, upd_ne hb]
      by_cases hba : b = a
      · subst hba; rw [del_same, na]
      · rw [del_ne hba, upd_ne hba, upd_ne hb, upd_ne hba]
  rw [e]
  exact h d nd'
/-! ### C(e, .., k = v, ..) that may raise, within a try: the wish knows the slots -/
def tMakeS (C : Addr) (n m : Nat) (sp : Sp) (gV : List V → List V → List V) (W : WX) (t tk : TA) : TE := fun σ H Q => t σ H fun vs H1 => tk σ H1 fun zs H2 => vs.length = n ∧ zs.length = m ∧
  ∀ x dx, H2 x = none → H2 dx = none → dx ≠ x → sp (gV (.ref x :: vs) zs) (upd (upd H2 dx (.own x)) x (.ins C dx [])) (fun v H3 => v = .non ∧ Q (.ref x) H3) (WE W σ)
section
variable {X : Cx} {k n : Nat} {f C : Addr} {fd : FuncData} {ps ks : List Str} {sp : Sp} {W : WX} {x : Str} {p pos : Pos} {e : Expr} {es : List Expr} {kws : List Keyword} {t tk : TA} {g : List Value → List Value → List Value} {gV : List V → List V → List V}
theorem pe_makeS (M : Mk X.K C f) (F : FnOk X.prog X.w X.K X.mg X.base (L2.CX X.prog X.w) k f fd ps sp) (hr : Room (k + 1) X.A) (hg : Gl X x) (hm : X.mg x = some (.ref C)) (hb : KBn X.K fd ps (n + 1) ks g gV) (hx : Takes X W)
    (ha : PA X (e :: es) t) (hkw : PK X kws tk) (hall : (backToKw pos (keywordEach kws X.env)).all (·.1.isSome) = true := by rfl) (hks : (backToKw pos (keywordEach kws X.env)).filterMap (·.1) = ks := by rfl)
    (hdb : (x == ("__debug__" : Str)) = false := by decide) (he : starEach (e :: es) X.env = (false, eval e X.env) :: starEach es X.env := by rfl)
    (hpl : ((backTo pos (starEach (e :: es) X.env)).any (·.1) || (backToKw pos (keywordEach kws X.env)).any (·.1.isNone)) = false := by rfl) : PE X (.Call (.Name x p) (e :: es) kws pos) (tMakeS C n ks.length sp gV W t tk) := by
  constructor
  intro pins s σ H Q I h
  apply wpAny_Call_Name_kw
  apply ld_glob I hg hm _ hdb
  apply PySem.W.callWith_KW (h₀ := X.base) I.ok.mod.kin M.kp hall _ hpl he
  refine thn (ha.run pos pins s σ H _ I h) fun us s1 hh => ?_
  obtain ⟨vs, H1, I1, r, q⟩ := hh
  refine thn (hkw.run pos pins s1 σ H1 _ I1 q) fun ws s2 hh => ?_
  obtain ⟨zs, H2, I2, rz, l1, l2, q2⟩ := hh
  refine ⟨I2.kIn, ?_⟩
  rw [hks]
  have hq := q2 (s2.heap.objs.size + 1) s2.heap.objs.size (I2.hok.fresh (Nat.le_succ _)) (I2.hok.fresh (Nat.le_refl _)) (Nat.ne_of_lt (Nat.lt_succ_self _))
  have J := Inv.made (C := C) I2
  have n1 : (Value.ref (s2.heap.objs.size + 1) :: us).length = n + 1 := by rw [List.length_cons, ← r.length, l1]
  have r1 : Vals (V.ref (s2.heap.objs.size + 1) :: vs) (Value.ref (s2.heap.objs.size + 1) :: us) := .cons rfl r
  have rr := hb.rel r1 rz
  have bnd := hb.to _ (Value.ref (s2.heap.objs.size + 1) :: us) ws J.kIn n1 (rz.length.symm.trans l2)
  have one := F.run _ X.stack _ _ ⟨Value.ref (s2.heap.objs.size + 1) :: us, ks.zip ws⟩ _ _ _ _ (hr.make C us (ks.zip ws)) (J.env0.make C us (ks.zip ws)) bnd rr hq
  refine wpAny_call (make_map (f := f) I2.kIn M.makes M.init (beq_iff_eq.mp M.fn) (codeAny_mono one fun r s' z => ?_))
  match r, z with
  | .error u, z => exact passAt hx σ pins _ _ u s' J z
  | .ok (.ret u), z =>
    obtain ⟨v, H', J2, rv, ev, q3⟩ := J.after z
    subst ev
    exact ⟨rv, .ref (s2.heap.objs.size + 1), H', J2, rfl, q3⟩
end
end HQ
/-! displays of data in one step: tuples of tuples of texts, numbers and names' values -/
namespace HK
open PySem PySem.Spec PyProof.Rows L2 HB
section
variable {K : PySem.W.Frag} {σ : L2.St} {H0 : Hp}
/-- the expression gives this data, and what stood stands -/
def MkE (K : PySem.W.Frag) (σ : L2.St) (H0 : Hp) (t : TE) (d : PyData) : Prop := ∀ (H : Hp) (Q : VK), Same H0 H → (∀ v H', Same H H' → Dp K H' v d → Q v H') → t σ H Q
def MkA (K : PySem.W.Frag) (σ : L2.St) (H0 : Hp) (t : TA) (ds : List PyData) : Prop := ∀ (H : Hp) (Q : List V → Hp → Prop), Same H0 H → (∀ vs H', Same H H' → DpAll K H' vs ds → Q vs H') → t σ H Q
theorem mk_int {i : Int} : MkE K σ H0 (tC (.int i)) (.int i) := fun H Q _ q => q _ H (Same.refl H) (.int i)
theorem mk_str {z : Str} : MkE K σ H0 (tC (.str z)) (.str z) := fun H Q _ q => q _ H (Same.refl H) (.str z)
theorem mk_non : MkE K σ H0 (tC .non) .none := fun H Q _ q => q _ H (Same.refl H) .non
theorem mk_bl {b : Bool} : MkE K σ H0 (tC (.bl b)) (.bool b) := fun H Q _ q => q _ H (Same.refl H) (.bl b)
theorem mk_var {i : Nat} {v : V} {d : PyData} (h : σ[i]? = some (some v)) (hd : Dp K H0 v d) : MkE K σ H0 (tVar i) d := fun H Q s q => ⟨v, h, q _ H (Same.refl H) (s.dp hd)⟩
theorem mk_nil : MkA K σ H0 tNil [] := fun H Q _ q => q [] H (Same.refl H) .nil
theorem mk_cons {t : TE} {ta : TA} {d : PyData} {ds : List PyData} (h : MkE K σ H0 t d) (ha : MkA K σ H0 ta ds) : MkA K σ H0 (tCons t ta) (d :: ds) := fun H Q s q =>
  h H _ s fun v H1 s1 hv => ha H1 _ (s.trans s1) fun vs H2 s2 hvs => q (v :: vs) H2 (s1.trans s2) (.cons (s2.dp hv) hvs)
theorem mk_tup {ta : TA} {ds : List PyData} (h : MkA K σ H0 ta ds) (hz : ds.length ≤ 1000 := by simp) : MkE K σ H0 (tTup ta) (.tuple ds) := fun H Q s q =>
  h H _ s fun vs H1 s1 hvs => ⟨by rw [HX.dpAll_len hvs]; exact Nat.le_of_lt (small1000 hz), fun p np => q (.ref p) _ (s1.trans (same_upd np)) (.tup (stt upd_same) ((same_upd np).dpAll hvs))⟩
theorem mk_of {t : TE} {d : PyData} (h : ∀ (H : Hp) (Q : VK), Same H0 H → (∀ v H', Same H H' → Dp K H' v d → Q v H') → t σ H Q) : MkE K σ H0 t d := h
/-! ### where a statement's value is a display -/
theorem seq_set {t : TE} {g : TG} {u : TS} {D : Ends} {σ : L2.St} {H : Hp} (h : t σ H fun v H1 => g v σ H1 (u D)) : tSeq (tAsg t g) u D σ H := h
theorem nm_ {i : Nat} {v : V} {σ : L2.St} {H : Hp} {nx : L2.St → Hp → Prop} {rt : VK} {bk ct : L2.St → Hp → Prop} (h : nx (σ.set i (some v)) H) : gName i v σ H (Ends.mk nx rt bk ct).nx := h
theorem nx_ {σ : L2.St} {H : Hp} {nx : L2.St → Hp → Prop} {rt : VK} {bk ct : L2.St → Hp → Prop} (h : nx σ H) : (Ends.mk nx rt bk ct).nx σ H := h
theorem nm1 {i : Nat} {v : V} {σ : L2.St} {H : Hp} {Q : L2.St → Hp → Prop} (h : Q (σ.set i (some v)) H) : gName i v σ H Q := h
/-- behind a name's store: the next statement sets a name too -/
theorem nm_set {i : Nat} {v : V} {σ : L2.St} {H : Hp} {t : TE} {g : TG} {u : TS} {D : Ends} {rt : VK} {bk ct : L2.St → Hp → Prop} (h : t (σ.set i (some v)) H fun y H1 => g y (σ.set i (some v)) H1 (u D)) : gName i v σ H (Ends.mk (tSeq (tAsg t g) u D) rt bk ct).nx := h
theorem one_set {t : TE} {g : TG} {D : Ends} {σ : L2.St} {H : Hp} (h : t σ H fun v H1 => g v σ H1 D.nx) : tAsg t g D σ H := h
theorem one_ret {t : TE} {D : Ends} {σ : L2.St} {H : Hp} (h : t σ H D.rt) : tRet t D σ H := h
theorem op_ {r : R2} {ta tb : TE} {σ : L2.St} {H : Hp} {Q : VK} (h : ta σ H fun x H1 => tb σ H1 fun y H2 => r x y H2 Q) : tOp r ta tb σ H Q := h
theorem cons_ {t : TE} {ta : TA} {σ : L2.St} {H : Hp} {Q : List V → Hp → Prop} (h : t σ H fun x H1 => ta σ H1 fun xs H2 => Q (x :: xs) H2) : tCons t ta σ H Q := h
theorem run_tup {H : Hp} {Q : VK} {ta : TA} {ds : List PyData} (h : MkA K σ H ta ds) (q : ∀ p H', H p = none → Same H H' → Dp K H' (.ref p) (.tuple ds) → Q (.ref p) H') (hz : ds.length ≤ 1000 := by simp) : tTup ta σ H Q :=
  h H _ (Same.refl H) fun vs H1 s1 hvs => ⟨by rw [HX.dpAll_len hvs]; exact Nat.le_of_lt (small1000 hz), fun p np => q p _ (s1.free np) (s1.trans (same_upd np)) (.tup (stt upd_same) ((same_upd np).dpAll hvs))⟩
theorem run_lst {H : Hp} {Q : VK} {ta : TA} {ds : List PyData} (h : MkA K σ H ta ds) (q : ∀ p H' vs, H p = none → Same H H' → H' p = some (.lst vs) → DpAll K H' vs ds → Q (.ref p) H') (hz : ds.length ≤ 1000 := by simp) : tLst ta σ H Q :=
  h H _ (Same.refl H) fun vs H1 s1 hvs => ⟨by rw [HX.dpAll_len hvs]; exact Nat.le_of_lt (small1000 hz), fun p np => q p _ vs (s1.free np) (s1.trans (same_upd np)) upd_same ((same_upd np).dpAll hvs)⟩
theorem dpAll_app {H : Hp} : ∀ {xs ys : List V} {ds es : List PyData}, DpAll K H xs ds → DpAll K H ys es → DpAll K H (xs ++ ys) (ds ++ es)
  | _, _, _, _, .nil, k => k
  | _, _, _, _, .cons h t, k => .cons h (dpAll_app t k)
/-- the comprehension has no test -/
theorem yes_ {σ : L2.St} {H : Hp} {A B : Hp → Prop} (h : A H) : tYes σ H (fun b H1 => if b = true then A H1 else B H1) := by
  show if true = true then A H else B H
  rw [if_pos rfl]
  exact h
/-! ### data of tuples alone -/
mutual
def tupD : PyData → Bool
  | .list _ => false
  | .dict _ => false
  | .tuple xs => tupAll xs
  | _ => true
def tupAll : List PyData → Bool
  | [] => true
  | x :: xs => tupD x && tupAll xs
end
mutual
theorem dp_keep {H H' : Hp} (k : ∀ (a : Addr) (xs : List V), SqT K H a xs → SqT K H' a xs) : ∀ {v : V} {x : PyData}, tupD x = true → Dp K H v x → Dp K H' v x
  | _, _, _, .non => .non
  | _, _, _, .bl b => .bl b
  | _, _, _, .int i => .int i
  | _, _, _, .str x => .str x
  | _, _, t, .lst h j => by cases t
  | _, _, t, .tup h j => .tup (k _ _ h) (dpAll_keep k t j)
theorem dpAll_keep {H H' : Hp} (k : ∀ (a : Addr) (xs : List V), SqT K H a xs → SqT K H' a xs) : ∀ {vs : List V} {xs : List PyData}, tupAll xs = true → DpAll K H vs xs → DpAll K H' vs xs
  | _, _, _, .nil => .nil
  | _, _, t, .cons h j => by
    simp only [tupAll, Bool.and_eq_true] at t
    exact .cons (dp_keep k t.1 h) (dpAll_keep k t.2 j)
end
theorem sqt_setl {H : Hp} {t l : Addr} {xs ys zs : List V} (e : H l = some (.lst ys)) (h : SqT K H t xs) : SqT K (upd H l (.lst zs)) t xs := by
  rcases h with (h | ⟨o, h⟩) | h
  · exact .inl (.inl (by rw [upd_ne (fun q => by subst q; rw [e] at h; cases h)]; exact h))
  · exact .inl (.inr ⟨o, by rw [upd_ne (fun q => by subst q; rw [e] at h; cases h)]; exact h⟩)
  · exact .inr h
theorem sqt_setk {H : Hp} {t l : Addr} {xs : List V} {kvs : List (Key × V)} {o : HO} (e : H l = some (.dK kvs)) (h : SqT K H t xs) : SqT K (upd H l o) t xs := by
  rcases h with (h | ⟨o, h⟩) | h
  · exact .inl (.inl (by rw [upd_ne (fun q => by subst q; rw [e] at h; cases h)]; exact h))
  · exact .inl (.inr ⟨o, by rw [upd_ne (fun q => by subst q; rw [e] at h; cases h)]; exact h⟩)
  · exact .inr h
theorem tupAll_app : ∀ {xs ys : List PyData}, tupAll xs = true → tupAll ys = true → tupAll (xs ++ ys) = true
  | [], _, _, h => h
  | x :: xs, ys, h, k => by
    simp only [List.cons_append, tupAll, Bool.and_eq_true] at h ⊢
    exact ⟨h.1, tupAll_app h.2 k⟩
/-- t + u, tuples of data -/
theorem cat_dp {H : Hp} {Q : VK} {a b : Addr} {ds es : List PyData} (h1 : Dp K H (.ref a) (.tuple ds)) (h2 : Dp K H (.ref b) (.tuple es)) (l : ds.length + es.length ≤ sizeLine) (q : ∀ t H', Same H H' → Dp K H' (.ref t) (.tuple (ds ++ es)) → Q (.ref t) H') : HT2.rCatA K (.ref a) (.ref b) H Q := by
  cases h1 with
  | tup h1 k1 =>
    cases h2 with
    | tup h2 k2 =>
      refine ⟨a, b, _, _, rfl, rfl, h1, h2, by rw [HX.dpAll_len k1, HX.dpAll_len k2]; exact l, fun e => ?_, fun _ e => ?_, fun _ _ p np => ?_⟩
      · subst e
        cases k1
        exact q b H (Same.refl H) (.tup h2 k2)
      · subst e
        cases k2
        rw [List.append_nil] at q
        exact q a H (Same.refl H) (.tup h1 k1)
      · exact q p _ (same_upd np) (.tup (stt upd_same) ((same_upd np).dpAll (dpAll_app k1 k2)))
theorem dp_at' {H : Hp} : ∀ {xs : List V} {ds : List PyData}, DpAll K H xs ds → ∀ {i : Nat} {d : PyData}, ds[i]? = some d → ∃ v, xs[i]? = some v ∧ Dp K H v d
  | _, _, .cons h _, 0, _, e => ⟨_, rfl, by cases e; exact h⟩
  | _, _, .cons _ t, i + 1, _, e => dp_at' t (by simpa using e)
  | _, _, .nil, i, _, e => by simp at e
theorem seq_ {t u : TS} {D : Ends} {σ : L2.St} {H : Hp} (h : t { D with nx := u D } σ H) : tSeq t u D σ H := h
/-- for .. in [a display] -/
theorem for_lst {H : Hp} {ta : TA} {ds : List PyData} {g : TG} {tb : TS} {D : Ends} (h : MkA K σ H ta ds) (q : ∀ (a : Addr) (H1 : Hp) (vs : List V), H a = none → Same H H1 → H1 a = some (.lst vs) → DpAll K H1 vs ds →
    ∃ Pv : Nat → L2.St → Hp → Prop, Pv 0 σ H1 ∧ (∀ i σ' H', Pv i σ' H' → SqL K H' a vs) ∧ (∀ i x d σ' H', vs[i]? = some x → ds[i]? = some d → Dp K H1 x d → Pv i σ' H' → g x σ' H' fun σ2 H2 => tb { D with nx := Pv (i + 1), ct := Pv (i + 1), bk := D.nx } σ2 H2) ∧ ∀ σ' H', Pv vs.length σ' H' → D.nx σ' H')
    (hz : ds.length ≤ 1000 := by simp) : tFor (iList K (tLst ta)) g tb D σ H := by
  unfold tFor iList
  refine run_lst h (fun p H1 vs n s l dv => ?_) hz
  obtain ⟨Pv, h0, hl, hs, hd⟩ := q p H1 vs n s l dv
  refine ⟨p, rfl, ⟨_, sl l⟩, for_list (xs := vs) Pv h0 (fun i σ' H' _ hp => hl i σ' H' hp) (fun i x σ' H' hx hp => ?_) hd⟩
  have hi : i < ds.length := by
    have := (List.getElem?_eq_some_iff.mp hx).1
    rw [← HX.dpAll_len dv]
    exact this
  obtain ⟨x', e1, e2⟩ := dp_at' dv (List.getElem?_eq_getElem hi)
  rw [hx] at e1
  cases e1
  exact hs i x _ σ' H' hx (List.getElem?_eq_getElem hi) e2 hp
/-- an item of a list of data -/
theorem dp_at {H : Hp} : ∀ {xs : List V} {ds : List PyData}, DpAll K H xs ds → ∀ {i : Nat} {d : PyData}, ds[i]? = some d → ∃ v, xs[i]? = some v ∧ Dp K H v d
  | _, _, .cons h _, 0, _, e => ⟨_, rfl, by cases e; exact h⟩
  | _, _, .cons _ t, i + 1, _, e => dp_at t (by simpa using e)
  | _, _, .nil, i, _, e => by simp at e
end
/-! ### repr of any data -/
def rReprA (K : PySem.W.Frag) : List V → Hp → VK → Prop := fun vs H Q => ∃ (x : V) (d : PyData), vs = [x] ∧ Dp K H x d ∧ d.showable = true ∧ d.hasDict = false ∧ d.depth ≤ 60 ∧ d.shown.length ≤ sizeLine ∧ Q (.str d.shown) H
theorem call_reprA {X : Cx} (sh : HG.Shut X.A) (hu : X.A.units + 64 < cLine) : CallR X (.builtin "repr") (rReprA X.K) := by
  intro pins s σ H vs us Q I r h
  obtain ⟨x, d, rfl, hd, sw, nd, dep, len, q⟩ := h
  have hd0 := hd
  cases hd with
  | non =>
    obtain ⟨u, rfl, rx⟩ := vals1 r
    obtain rfl : u = Value.none := rx
    exact PySem.P.repr_of_none ⟨.str "None", H, I.tok _, ⟨_, rfl⟩, by rw [PyData.shown_none] at q; exact q⟩
  | bl b =>
    obtain ⟨u, rfl, rx⟩ := vals1 r
    obtain rfl : u = Value.bool b := rx
    exact PySem.P.repr_of_bool ⟨.str _, H, I.tok _, ⟨_, rfl⟩, by rw [PyData.shown_bool] at q; exact q⟩
  | int i =>
    obtain ⟨u, rfl, t, rfl⟩ := vals1 r
    have hz : i.natAbs.log2 < 1920 := of_decide_eq_true sw
    exact PySem.P.repr_of_int hz ⟨.str _, H, I.tok _, ⟨_, rfl⟩, by rw [PyData.shown_int] at q; exact q⟩
  | str z =>
    obtain ⟨u, rfl, t, rfl⟩ := vals1 r
    exact PySem.P.repr_of_str ⟨.str _, H, I.tok _, ⟨_, rfl⟩, by rw [PyData.shown_str] at q; exact q⟩ (by rw [PyData.shown_str] at len; exact len)
  | lst h1 h2 => exact HG.call_reprD sh hu pins s σ H _ us Q I r ⟨_, _, rfl, hd0, rfl, sw, nd, dep, len, q⟩
  | tup h1 h2 => exact HG.call_reprD sh hu pins s σ H _ us Q I r ⟨_, _, rfl, hd0, rfl, sw, nd, dep, len, q⟩
end HK
/-! dicts of unlike sizes compared; list(x) of a dict or a list; all but some objects stand -/
namespace HN
open PySem PySem.Spec PySem.Calls PyProof.Rows L2 HB
section
variable {X : Cx}
/-- d == e, d != e: alike by every key, or of unlike sizes -/
def rDB (r : Bool) : R2 := fun x y H Q => ∃ a b ks ls, x = .ref a ∧ y = .ref b ∧ H a = some (.dK ks) ∧ H b = some (.dK ls) ∧
  ((ks.length = ls.length ∧ (∀ p ∈ ks, valV ls p.1 = some p.2 ∧ flatB p.2 = true) ∧ Q (.bl r) H) ∨ (ks.length ≠ ls.length ∧ Q (.bl (!r)) H))
theorem op_eq_dictB (hu : X.A.units < cLine) : OpR X (compareOp .Eq) (rDB true) := by
  intro pins s σ H x y v u Q I rx ry h
  obtain ⟨a, b, ks, ls, rfl, rfl, ea, eb, h⟩ := h
  rcases h with ⟨hl, hp, q⟩ | ⟨hl, q⟩
  · exact op_eq_dictA hu pins s σ H _ _ v u Q I rx ry ⟨a, b, ks, ls, rfl, rfl, ea, eb, hl, hp, q⟩
  · obtain rfl : v = Value.ref a := rx
    obtain rfl : u = Value.ref b := ry
    obtain ⟨_, ya, va, ra, da⟩ := (show ObjOk X.prog X.w H s.heap a (.dK ks) from I.hok a _ ea)
    obtain ⟨_, yb, vb, rb, db⟩ := (show ObjOk X.prog X.w H s.heap b (.dK ls) from I.hok b _ eb)
    have hn : va.length ≠ vb.length := by rw [← ra.length, ← rb.length]; exact hl
    exact PySem.W.keq_eq (knd := mixKind X.prog X.w) (r := true) ya yb da db hu (fun e => absurd e hn) (fin_bl I q (by simp [hn]))
theorem op_ne_dictB (hu : X.A.units < cLine) : OpR X (compareOp .NotEq) (rDB false) := by
  intro pins s σ H x y v u Q I rx ry h
  obtain ⟨a, b, ks, ls, rfl, rfl, ea, eb, h⟩ := h
  rcases h with ⟨hl, hp, q⟩ | ⟨hl, q⟩
  · exact op_ne_dictA hu pins s σ H _ _ v u Q I rx ry ⟨a, b, ks, ls, rfl, rfl, ea, eb, hl, hp, q⟩
  · obtain rfl : v = Value.ref a := rx
    obtain rfl : u = Value.ref b := ry
    obtain ⟨_, ya, va, ra, da⟩ := (show ObjOk X.prog X.w H s.heap a (.dK ks) from I.hok a _ ea)
    obtain ⟨_, yb, vb, rb, db⟩ := (show ObjOk X.prog X.w H s.heap b (.dK ls) from I.hok b _ eb)
    have hn : va.length ≠ vb.length := by rw [← ra.length, ← rb.length]; exact hl
    exact PySem.W.keq_ne (knd := mixKind X.prog X.w) (r := true) ya yb da db hu (fun e => absurd e hn) (fin_bl I q (by simp [hn]))
/-- list(x) of a list, a tuple, a dict -/
def rListAny (K : PySem.W.Frag) : List V → Hp → VK → Prop := fun xs H Q => (∃ p ys, xs = [.ref p] ∧ (SqL K H p ys ∨ SqT K H p ys) ∧ ∀ l, H l = none → Q (.ref l) (upd H l (.lst ys))) ∨
  ∃ (a : Addr) (kvs : List (Key × V)), xs = [.ref a] ∧ Rd H a (.dK kvs) ∧ ∀ p, H p = none → Q (.ref p) (upd H p (.lst (kvs.map fun kv => kV kv.1)))
theorem call_listAny (hc : X.calm = true) : CallR X (.type "list") (rListAny X.K) := by
  intro pins s σ H xs us Q I r h
  rcases h with h | h
  · exact call_list_of pins s σ H xs us Q I r h
  · exact call_listD hc pins s σ H xs us Q I r h
end
/-! ### all but these stand -/
def But (S : List Addr) (H H' : Hp) : Prop := ∀ b o, H b = some o → b ∉ S → H' b = some o
section
variable {S S' : List Addr} {K : PySem.W.Frag} {H H' H'' : Hp}
theorem But.refl (H : Hp) : But S H H := fun _ _ h _ => h
theorem But.trans (a : But S H H') (b : But S H' H'') : But S H H'' := fun x o h h1 => b x o (a x o h h1) h1
theorem But.of (s : Same H H') : But S H H' := fun b o h _ => s b o h
theorem But.mono (a : But S H H') (h : ∀ x ∈ S, x ∈ S') : But S' H H' := fun x o e n => a x o e fun m => n (h x m)
theorem But.set (a : But S H H') {p : Addr} {o : HO} (h : p ∈ S) : But S H (upd H' p o) := fun x y e n => by
  rw [upd_ne (fun q => by subst q; exact n h)]
  exact a x y e n
theorem But.own (a : But S H H') {p : Addr} {o : HO} (n : H p = none) : But S H (upd H' p o) := fun x y e m => by
  rw [upd_ne (ne_of_none e n)]
  exact a x y e m
/-- tuples stand, where the others are none -/
theorem But.sqt (u : But S H H') (hS : ∀ x ∈ S, ∃ o, H x = some o ∧ (∀ xs, o ≠ .tup xs) ∧ ∀ ob ys, o ≠ .frz ob ys) {a : Addr} {xs : List V} (h : SqT K H a xs) : SqT K H' a xs := by
  rcases h with (h | ⟨o, h⟩) | h
  · refine .inl (.inl (u _ _ h fun m => ?_))
    obtain ⟨o, e, n1, _⟩ := hS _ m
    rw [h] at e
    exact n1 _ (Option.some.inj e).symm
  · refine .inl (.inr ⟨o, u _ _ h fun m => ?_⟩)
    obtain ⟨o2, e, _, n2⟩ := hS _ m
    rw [h] at e
    exact n2 _ _ (Option.some.inj e).symm
  · exact .inr h
end
end HN
/-! str(x): of a number or a text, and of an instance whose class has its own __str__ -/
namespace HJ
open PySem
section
open Sem (wp)
open Builtin Builtin.Str
variable {prog : Program} {w : World} {A : Around} {E : Value → Shared → Prop} {s : Shared}
theorem callType_in {T newId initId : String} {Bn Bi : Builtin} {args : List Value} {S : Spec} {Q Q₁ : Value → Shared → Prop} (ft : TypeCalled T newId initId)
    (hct : checkTypeCall T ⟨args, []⟩ = pure ()) (hcn : checkBuiltinCall newId ⟨.type T :: args, []⟩ = pure ())
    (entryN : entryFor table newId = some Bn) (entryI : entryFor table initId = some Bi) (g : MeetsIn prog w (Bn ⟨.type T :: args, []⟩) S)
    (h : S A.in1 (wants Q₁ E) s)
    (hnext : ∀ obj s₁, Q₁ obj s₁ → s₁.TypeIs obj T ∧ argsOk initId ⟨obj :: args, []⟩ ∧ ∃ Si, Meets (Bi ⟨obj :: args, []⟩) Si ∧ Si A.in1 (wants (fun r s₂ => r = .none ∧ Q obj s₂) E) s₁) :
    wpAny (model prog w) A (call (.type T) args) Q E s := by
  obtain ⟨c, tl, hmro⟩ := ft.mro
  have hmade := ft.made
  have hsub := ft.sub
  refine wpAny_call (codeAny_of_tree ?_)
  show wpAny _ _ (callAny (.type T) _) _ _ _
  refine wpAny_pure ⟨Code.quiet_builtin _ (by decide +kernel), codeAny_builtin F.entry_type_call ?_⟩
  rw [Around.under_plain (weight_type_call_type T args []) (units_type_call_type T args [])]
  have h1 := ft.notType
  have h2 := ft.canCreate
  repeat (any_goals (first | assumption | wp_step))
  refine codeAny_mono (codeAny_call_builtin ft.plain entryN (wpAny_of_eq hcn (g A.in1 _ s h))) fun r s₁ hr => ?_
  cases r with
  | error e => exact hr
  | ok fl =>
    cases fl with
    | ret obj =>
      obtain ⟨hT, hok, Si, gi, hsi⟩ := hnext _ _ hr
      have hli := ft.init.lookup
      have hbi := ft.init.bind obj
      repeat (any_goals (first | assumption | wp_step))
      refine codeAny_mono (codeAny_call_builtin ft.init.plain entryI (ft.init.check _ _ _ _ _ _ _ _ hT hok (gi prog w A.in1 _ s₁ hsi))) fun r₂ s₂ hr₂ => ?_
      cases r₂ with
      | error e => exact hr₂
      | ok fl₂ =>
        cases fl₂ with
        | ret r =>
          obtain ⟨rfl, hq⟩ := hr₂
          repeat (any_goals (first | assumption | wp_step))
        | _ => exact hr₂.elim
    | _ => exact hr.elim
theorem str_new_in {v : Value} {S : PySem.Spec} (hs : ∀ (A : Around) (R : Result → Shared → Prop) (s : Shared), S A R s →
      wpAny (model prog w) A.in1 (strOf v) (fun r s' => R (.ok (.ret r)) s') (fun e s' => R (.error e) s') s) : MeetsIn prog w («str.__new__» ⟨[.type "str", v], []⟩) S := by
  refine MeetsIn.of_wp fun A R s h => ?_
  rw [str_new_tree v]
  refine wpAny_bind (wpAny_pure ?_)
  refine wpAny_bind (wpAny_of_eq isSubtype_str_str ?_)
  exact wpAny_bind (wpAny_mono (hs A R s h) (fun r s' h' => wpAny_pure ⟨_, rfl, h'⟩) fun _ _ e => e)
theorem str_own {a : Addr} {Q : Value → Shared → Prop} (hu : A.units + 64 < cLine)
    (h : wpAny (model prog w) A.in1.in1 (callSpecial? (.ref a) "__str__") (fun r s' => ∃ z t, r = some (.str z t) ∧ Q (.str z t) s') E s) :
    wpAny (model prog w) A (call (.type "str") [.ref a]) Q E s :=
  callType_in (S := fun A' R s' => A' = A.in1 ∧ s' = s ∧ R = wants (fun obj s₁ => s₁.TypeIs obj "str" ∧ Q obj s₁) E) F.called_str (F.typeCall_str_1 _) (F.newCall_str_1 _) F.entry_str_new F.entry_object_init
    (str_new_in fun A' R s' hq => by
      obtain ⟨rfl, rfl, rfl⟩ := hq
      unfold strOf
      rw [show isExactStr (.ref a) = false from rfl]
      simp only [Bool.false_eq_true, if_false, pure_bind]
      refine wpAny_bind (wpAny_cRoomFor (by show A.units + 1 + 1 < cLine; omega) ?_)
      refine wpAny_bind (m := callSpecial? (.ref a) (Str.ofString "__str__")) (wpAny_mono h (fun r s2 hr => ?_) fun _ _ e => e)
      obtain ⟨z, t, rfl, hq⟩ := hr
      repeat (any_goals (first | assumption | wp_step))
      exact ⟨typeIs_str _ _ _, hq⟩)
    ⟨rfl, rfl, rfl⟩ (fun obj _ hq => ⟨hq.1, F.args_object_init_2 obj _, _, object_init_meets F.called_str.init.lookup F.called_str.made (by decide), hq.1, rfl, hq.2⟩)
end
section
open PySem.Spec PyProof.Rows L2
variable {X : Cx} {CX : CXT} {k : Nat} {f C : Addr} {fd : FuncData} {ps : List Str} {sp : Sp} {E : XK}
/-- str(x) of a number or a text -/
def rStrIS : List V → Hp → VK → Prop := fun xs H Q => (∃ i : Int, xs = [.int i] ∧ i.natAbs.log2 < 1920 ∧ Q (.str (toString i)) H) ∨ ∃ a : Str, xs = [.str a] ∧ Q (.str a) H
theorem call_strIS : CallR X (.type "str") rStrIS := by
  intro pins s σ H xs us Q I r h
  rcases h with h | h
  · exact call_str_int pins s σ H xs us Q I r h
  · exact SkE.call_str_str pins s σ H xs us Q I r h
/-- str(x) of an instance whose class says how -/
def rStrO (C : Addr) (sp : Sp) (E : XK) : List V → Hp → VK → Prop := fun xs H Q => ∃ (a dx : Addr) (fs : List (Str × V)), xs = [.ref a] ∧ H a = some (.ins C dx fs) ∧ sp [.ref a] H (fun v H' => ∃ z : Str, v = .str z ∧ Q v H') E
theorem call_strO (hm : Meth X.K C "__str__" f) (F : FnOk X.prog X.w X.K X.mg X.base CX k f fd ps sp) (hr : Room (k + 2) X.A) (hb : Binds X.K fd ps []) (hx : Passes CX X E) : CallR X (.type "str") (rStrO C sp E) := by
  intro pins s σ H xs us Q I r h
  obtain ⟨a, dx, fs, rfl, e, q⟩ := h
  obtain ⟨u, rfl, ru⟩ := vals1 r
  obtain rfl : u = Value.ref a := ru
  refine str_own hr.units ?_
  obtain ⟨mA, O, _⟩ := ins_get I.hok e
  obtain ⟨od, J, _⟩ := O.look
  refine PySem.W.special_fn I.kIn J hm.at_ (beq_iff_eq.mp hm.fn) ?_
  have hl : ([Value.ref a] ++ []).length = ps.length := by
    have := F.len _ _ _ _ q
    exact this
  refine wpAny_call (codeAny_mono (F.run X.A.in1.in1 X.stack s H ⟨[.ref a], []⟩ [.ref a] [.ref a] _ E hr.in1.in1 I.env0.in1.in1 (hb s [.ref a] I.kIn hl) (.cons rfl .nil) q) fun r s' hq => ?_)
  cases r with
  | error e => exact hx pins σ H s e s' I hq
  | ok fl =>
    cases fl with
    | ret u =>
      obtain ⟨v, H', I3, rv, z, ev, q3⟩ := I.after hq
      subst ev
      obtain ⟨t, rfl⟩ := rv
      exact ⟨z, t, rfl, .str z, H', I3, ⟨t, rfl⟩, q3⟩
    | next => exact False.elim hq
    | brk => exact False.elim hq
    | cont => exact False.elim hq
end
end HJ
/-! zip of a text and a tuple -/
namespace HE
open PySem PySem.Spec PySem.Calls PyProof.Rows L2 RZ
open Sem (wp)
/-- the signs of x and a tuple at b, as they stand at each turn -/
def ItzST (K : PySem.W.Frag) (x : Str) (b : Addr) : It :=
  ⟨fun i H => ∃ (ys : List V) (y : V), SqT K H b ys ∧ i < x.cps.size ∧ ys[i]? = some y,
    fun i H v H' => ∃ (T : Addr) (c : Nat) (y : V), v = .ref T ∧ H T = none ∧ H' = upd H T (.tup [.str ⟨#[c]⟩, y]) ∧ x.cps[i]? = some c ∧ ∀ ys, SqT K H b ys → ys[i]? = some y,
    fun i H => ∃ ys : List V, SqT K H b ys ∧ i ≤ x.cps.size ∧ i ≤ ys.length ∧ (x.cps.size ≤ i ∨ ys.length ≤ i)⟩
def ZStS (z TI TO i1 i2 : Addr) (x : Str) (t : Tok) (b : Addr) (i : Nat) (h : Heap) : Prop := IsZip h z TI TO .none ∧ IsTupOf2 h TI (.ref i1) (.ref i2) ∧ (∃ x y, IsTupOf2 h TO x y) ∧ h.IsStrIter i1 (strIterType x) x t i ∧ h.IsTupleIter i2 b i
theorem strIter_at {h h' : Heap} {it : Addr} {ty : String} {x : Str} {t : Tok} {i : Nat} (s : h.IsStrIter it ty x t i) (k : ∀ o, h.get? it = some o → h'.get? it = some o) : h'.IsStrIter it ty x t i := let ⟨o, ho, r⟩ := s; ⟨o, k o ho, r⟩
theorem ZStS.live {z TI TO i1 i2 b : Addr} {x : Str} {t : Tok} {i : Nat} {h : Heap} (st : ZStS z TI TO i1 i2 x t b i h) {c : Addr} (hc : c ∈ [z, TI, TO, i1, i2]) : ∃ o, h.get? c = some o ∧ ∀ v, o.data ≠ .cell v := by
  obtain ⟨h1, h2, ⟨x, y, h3⟩, ⟨p, e4, _, d4⟩, ⟨q, e5, _, d5⟩⟩ := st
  rcases mem5 hc with e | e | e | e | e <;> subst e
  · exact ⟨_, h1, fun v q => nomatch q⟩
  · exact ⟨_, h2, fun v q => nomatch q⟩
  · exact ⟨_, h3, fun v q => nomatch q⟩
  · exact ⟨p, e4, fun v q => by rw [d4] at q; cases q⟩
  · exact ⟨q, e5, fun v z => by rw [d5] at z; cases z⟩
theorem sep_ofS {n b : Addr} (hb : b < n) : ZipSep2 (n + 4) (n + 2) (n + 3) n (n + 1) [n] [n + 1, b] := by
  have e : ∀ k j : Nat, k ≠ j → n + k ≠ n + j := fun k j h z => h (Nat.add_left_cancel z)
  have ne : ∀ {c : Addr} (k : Nat), c < n → n + k ≠ c := fun k h z => Nat.lt_irrefl n (Nat.lt_of_le_of_lt (Nat.le_add_right n k) (z ▸ h))
  constructor
  · exact e 2 4 (by decide)
  · exact e 3 4 (by decide)
  · exact e 2 3 (by decide)
  · exact e 2 0 (by decide)
  · simp
  · simp only [List.mem_cons, List.not_mem_nil, or_false, not_or]; exact e 4 0 (by decide)
  · simp only [List.mem_cons, List.not_mem_nil, or_false, not_or]; exact e 3 0 (by decide)
  · exact e 2 1 (by decide)
  · simp
  · simp only [List.mem_cons, List.not_mem_nil, or_false, not_or]; exact ⟨e 4 1 (by decide), ne 4 hb⟩
  · simp only [List.mem_cons, List.not_mem_nil, or_false, not_or]; exact ⟨e 3 1 (by decide), ne 3 hb⟩
  · simp only [List.mem_cons, List.not_mem_nil, or_false, not_or]; exact ⟨e 0 1 (by decide), ne 0 hb⟩
  · simp only [List.mem_cons, List.not_mem_nil, or_false, not_or]; exact e 1 0 (by decide)
theorem turn_zipST {P : Program} {w : World} {K : PySem.W.Frag} {elts : List Expr} {kk : Nat} {tpos : Pos} {x : Str} {t : Tok} {b z TI TO i1 i2 : Addr} (D : ZipSep2 z TI TO i1 i2 [i1] [i2, b]) (hbi : b ≠ i2) (hz1 : i1 ≠ z) (hz2 : i2 ≠ z) :
    Turn P w K (.Tuple elts kk tpos) (ItzST K x b) [z, TI, TO, i1, i2] z (ZStS z TI TO i1 i2 x t b) where
  mem := by simp
  obj := fun i h st c hc => st.live hc
  keep := fun i h h' st k => by
    obtain ⟨h1, h2, ⟨x, y, h3⟩, h4, h5⟩ := st
    exact ⟨k z (by simp) _ h1, k TI (by simp) _ h2, ⟨x, y, k TO (by simp) _ h3⟩, strIter_at h4 fun o q => k i1 (by simp) o q, h5.at fun o q => k i2 (by simp) o q⟩
  item := by
    intro X hP hw hK hc i pins s σ H E I hf st hg
    subst hP hw hK
    obtain ⟨g1, g2, ⟨x0, y0, g3⟩, g4, g5⟩ := id st
    obtain ⟨ys, y, hqy, hx, hy⟩ := hg
    obtain ⟨its2, rv2, p2, _⟩ := I.tuple hqy
    obtain ⟨u2, hu2, ru2⟩ := rv2.get hy
    have ht : s.heap.IsTuple b its2.toArray := p2
    have lt2 : i < its2.toArray.size := by have := (List.getElem?_eq_some_iff.mp hu2).1; simpa using this
    have zl : z < s.heap.objs.size := Heap.lt_size g1
    refine wpAny_pyNext_zipD2_item D (PySem.Draws.text (A := X.A.in1) (I.ok.hd hc) i1 x t) (PySem.Draws.tuple (A := X.A.in1) (I.ok.hd hc) i2 b hbi its2.toArray) g1 g2 g3 g4 ⟨g5, ht⟩ hx lt2
      fun v1 v2 h' tk e1 e2 z' t' s1 s2 hT hsz hk => ?_
    obtain ⟨c, uc, hcc, rfl⟩ := e1
    have ev2 : v2 = u2 := by
      have h1 : its2.toArray[i]? = some u2 := by simpa using hu2
      rw [e2] at h1
      exact Option.some.inj h1
    subst ev2
    refine ⟨_, rfl, wpAny_letOwnedTupleGo_zip (s := { s with heap := h', toks := tk }) z' fun h2 z2 sb => ?_⟩
    have nz : s.heap.objs.size ≠ z := Nat.ne_of_gt zl
    have hT2 : h2.get? s.heap.objs.size = some { cls := .type "tuple", data := .seq #[.str ⟨#[c]⟩ uc, v2] } := (sb.2 _ nz).trans hT
    have old : ∀ c o, c ∉ [z, TI, TO, i1, i2] → s.heap.get? c = some o → h2.get? c = some o := fun c o hm q => by
      simp only [List.mem_cons, List.not_mem_nil, or_false, not_or] at hm
      exact (sb.2 c hm.1).trans (hk c o hm.1 hm.2.2.1 hm.2.2.2.1 hm.2.2.2.2 q)
    have new : ObjOk X.prog X.w (upd H s.heap.objs.size (.tup [.str ⟨#[c]⟩, y])) h2 s.heap.objs.size (.tup [.str ⟨#[c]⟩, y]) :=
      ⟨by show 2 ≤ sizeLine; decide, [.str ⟨#[c]⟩ uc, v2], .cons ⟨uc, rfl⟩ (.cons ru2 .nil), ⟨_, hT2, rfl, _, rfl⟩⟩
    have I1 := I.turnedNew (t' := tk) (ch := [z, TI, TO, i1, i2]) (h' := h2) old hf (Nat.le_refl _) new
    refine ⟨.ref s.heap.objs.size, _, I1, rfl, ⟨_, c, y, rfl, I.hok.fresh (Nat.le_refl _), rfl, hcc, fun l hl => by rw [I.tuple_inj hl hqy]; exact hy⟩,
      ⟨z2, (sb.2 _ D.TIz).trans (hk _ _ D.TIz D.TITO D.TIi1 D.TIi2 g2), ⟨_, v2, (sb.2 _ D.TOz).trans t'⟩, strIter_at s1 fun o q => (sb.2 _ hz1).trans q, s2.1.at fun o q => (sb.2 _ hz2).trans q⟩, fun c hm => ?_⟩
    obtain ⟨o, ho, _⟩ := st.live hm
    rw [upd_ne (Nat.ne_of_lt (Heap.lt_size ho))]
    exact (hf c hm).1
  done := by
    intro X hP hw hK hc i pins s σ H E I hf st hg
    subst hP hw hK
    obtain ⟨g1, g2, ⟨x0, y0, g3⟩, g4, g5⟩ := st
    obtain ⟨ys, hqy, hi1, hi2, hend⟩ := hg
    obtain ⟨its2, rv2, p2, _⟩ := I.tuple hqy
    have ht : s.heap.IsTuple b its2.toArray := p2
    have l2 := rv2.length
    have fin : ∀ (h' : Heap) (tk : Nat), (∀ c o, c ≠ z → c ≠ TO → c ≠ i1 → c ≠ i2 → s.heap.get? c = some o → h'.get? c = some o) → (none : Option Value) = none ∧ Inv X pins σ H { s with heap := h', toks := tk } := fun h' tk hk =>
      ⟨rfl, I.turnedL (t' := tk) (ch := [z, TI, TO, i1, i2]) (fun c o hb q => by
        simp only [List.mem_cons, List.not_mem_nil, or_false, not_or] at hb
        exact hk c o hb.1 hb.2.2.1 hb.2.2.2.1 hb.2.2.2.2 q) hf⟩
    have hh := I.ok.hd hc
    refine wpAny_pyNext_zipD2_end D (PySem.Draws.text (A := X.A.in1) hh i1 x t) (PySem.Draws.tuple (A := X.A.in1) hh i2 b hbi its2.toArray) g1 g2 g3 g4 ⟨g5, ht⟩ hi1 (by simp only [List.size_toArray]; omega) ?_ fin
    rcases hend with h | h
    · exact .inl (by omega)
    · exact .inr (by simp only [List.size_toArray]; omega)
  self := fun A i s Q E st h => wpAny_pyIter_zip st.1 h
def iZipST (K : PySem.W.Frag) (ta : TA) : TI := fun σ H R => ta σ H fun vs H1 => ∃ (x : Str) (b : Addr) (ys : List V), vs = [.str x, .ref b] ∧ SqT K H1 b ys ∧ R (ItzST K x b) H1
theorem pi_zipST {X : Cx} {e e2 : Expr} {ta : TA} {p pos tpos : Pos} {elts : List Expr} {kk : Nat} (hg : Gl X "zip") (hm : X.mg "zip" = none) (ha : PA X [e, e2] ta)
    (hs : starEach [e, e2] X.env = (false, eval e X.env) :: starEach [e2] X.env := by rfl) (hpl : (backTo pos (starEach [e2] X.env)).any (·.1) = false := by rfl) :
    PI X (.Tuple elts kk tpos) (.Call (.Name "zip" p) [e, e2] [] pos) (iZipST X.K ta) := by
  refine ⟨fun pins s σ H R I h => ?_⟩
  refine Call_ (ld_blt I hg hm PyProof.Rows.boot_zip (PyProof.Rows.callWith_type1 (thn (ha.run pos pins s σ H _ I h) fun us s1 ⟨vs, H1, I1, r1, x, b, ys, ex, hqy, q⟩ => ?_) hs hpl))
  subst ex
  obtain ⟨u1, u2, rfl, ra, rb⟩ := vals2 r1
  obtain ⟨t, rfl⟩ := ra
  cases rb
  obtain ⟨its2, rv2, p2, _⟩ := I1.tuple hqy
  have ht : s1.heap.IsTuple b its2.toArray := p2
  have bl : b < s1.heap.objs.size := by obtain ⟨_, e, _⟩ := ht; exact Heap.lt_size e
  refine zip_begins2 (begins_text x t) (begins_tuple b its2.toArray) trivial ht fun h' hz hTI hTO k1 k2 hsz hk => wpAny_pyIter_zip hz ?_
  have I2 : Inv X pins σ H1 { s1 with heap := h' } := I1.kept (t' := s1.toks) hk
  have n1 : ∀ k : Nat, s1.heap.objs.size + (k + 1) ≠ s1.heap.objs.size := fun k z => absurd (Nat.add_left_cancel (show s1.heap.objs.size + (k + 1) = s1.heap.objs.size + 0 from z)) (Nat.succ_ne_zero k)
  have n2 : s1.heap.objs.size + 1 ≠ s1.heap.objs.size + 4 := fun z => absurd (Nat.add_left_cancel z) (by decide)
  refine ⟨s1.heap.objs.size + 4, _, _, _, H1, rfl, I2, turn_zipST (x := x) (t := t) (sep_ofS bl) (Nat.ne_of_lt (Nat.lt_succ_of_lt bl)) (Ne.symm (n1 3)) n2, ⟨hz, hTI, ⟨_, _, hTO⟩, ⟨_, k1, rfl, rfl⟩, ⟨_, k2, rfl, rfl⟩⟩, fun c hm => ?_, q⟩
  have hle : s1.heap.objs.size ≤ c := by
    rcases mem5 hm with e | e | e | e | e <;> rw [e]
    · exact Nat.le_add_right _ _
    · exact Nat.le_add_right _ _
    · exact Nat.le_add_right _ _
    · exact Nat.le_refl _
    · exact Nat.le_add_right _ _
  exact I1.fpOk hle (I1.hok.fresh hle)
theorem walk_zipST {K : PySem.W.Frag} {x : Str} {b : Addr} {ys : List V} {n : Nat} (hn : n = min x.cps.size ys.length) : Walk (ItzST K x b) n (fun H => SqT K H b ys) (YPair (fun i => (x.cps[i]?).map fun c => .str ⟨#[c]⟩) (fun i => ys[i]?)) := by
  subst hn
  refine ⟨fun i H hi q => ?_, fun _ q => ⟨ys, q, by omega, by omega, by omega⟩, fun i H v H' _ q y => ?_⟩
  · have h1 : i < x.cps.size := by omega
    have h2 : i < ys.length := by omega
    exact ⟨ys, ys[i], q, h1, by simp [h2]⟩
  · obtain ⟨T, c, y, e1, e2, e3, e4, e5⟩ := y
    exact ⟨T, .str ⟨#[c]⟩, y, e1, e2, e3, by show (x.cps[i]?).map _ = _; rw [e4]; rfl, e5 ys q⟩
end HE
/-! t[k::2] of a tuple -/
namespace HP
open PySem PySem.Spec PyProof.Rows L2
def ev2 {α : Type} : List α → List α
  | [] => []
  | [x] => [x]
  | x :: _ :: r => x :: ev2 r
theorem pick2 {α : Type} : ∀ (ys : List α), ((List.range ((ys.length + 1) / 2)).filterMap fun j => ys[j * 2]?) = ev2 ys
  | [] => by
    rw [show (([] : List α).length + 1) / 2 = 0 by simp]
    rfl
  | [x] => by
    rw [show ([x].length + 1) / 2 = 1 by simp]
    rfl
  | x :: y :: r => by
    have e : ((x :: y :: r).length + 1) / 2 = (r.length + 1) / 2 + 1 := by rw [List.length_cons, List.length_cons]; omega
    rw [e, List.range_succ_eq_map, List.filterMap_cons, List.filterMap_map]
    show x :: (List.range ((r.length + 1) / 2)).filterMap ((fun j => (x :: y :: r)[j * 2]?) ∘ Nat.succ) = x :: ev2 r
    rw [← pick2 r]
    congr 2
    funext j
    show (x :: y :: r)[(j + 1) * 2]? = r[j * 2]?
    rw [show (j + 1) * 2 = j * 2 + 1 + 1 by omega, List.getElem?_cons_succ, List.getElem?_cons_succ]
theorem ev2_len {α : Type} : ∀ (ys : List α), (ev2 ys).length ≤ ys.length
  | [] => Nat.le_refl _
  | [x] => Nat.le_refl _
  | x :: y :: r => by
    have := ev2_len r
    show (ev2 r).length + 1 ≤ r.length + 1 + 1
    omega
theorem vals_ev2 : ∀ {xs : List V} {us : List Value}, Vals xs us → Vals (ev2 xs) (ev2 us)
  | _, _, .nil => .nil
  | _, _, .cons a .nil => .cons a .nil
  | _, _, .cons a (.cons b t) => .cons a (vals_ev2 t)
section
variable {prog : Program} {w : World} {A : Around} {E : Value → Shared → Prop} {s : Shared}
theorem adjust_two (lo : Option Int) (n : Nat) : Builtin.Slice.sliceAdjust lo none 2 (n : Int) = (((HT.sIx n 0 lo : Nat) : Int), (n : Int)) := by
  have h1 : ¬ ((2 : Int) < 0) := by omega
  unfold Builtin.Slice.sliceAdjust
  simp only [h1, if_false]
  refine Prod.ext ?_ rfl
  cases lo with
  | none => rfl
  | some v => exact HT.clip_eq v n 0
theorem places_two (i n : Nat) (h : i ≤ n) : Builtin.Slice.slicePlaces (i : Int) (n : Int) 2 = (n - i + 1) / 2 := by
  unfold Builtin.Slice.slicePlaces
  have h1 : (2 : Int) > 0 := by omega
  simp only [h1, if_true]
  split <;> omega
theorem sliceApplied_two {sl : Addr} {vl vs : Value} {lo : Option Int} {n : Nat} {Q : Int × Int × Nat → Shared → Prop} (hs : s.heap.IsSliceOf sl vl .none vs) (pl : IsPart vl lo) (ps : IsPart vs (some 2))
    (h : Q (((HT.sIx n 0 lo : Nat) : Int), 2, (n - HT.sIx n 0 lo + 1) / 2) s) : wpAny (model prog w) A (Builtin.Slice.sliceApplied (.ref sl) (pure (n : Int))) Q E s := by
  obtain ⟨os, hos, hcs, hds⟩ := id hs
  unfold Builtin.Slice.sliceApplied Builtin.Slice.sliceFields
  refine wpAny_bind (wpAny_bind (wpAny_field hos hds (x := vl) rfl (wpAny_bind (wpAny_field hos hds (x := .none) rfl (wpAny_bind (wpAny_field hos hds (x := vs) rfl (wpAny_pure ?_)))))))
  refine wpAny_bind (HT.slicePart_ ps ?_)
  show wpAny _ _ (if ((2 : Int) == 0) = true then _ else _) _ _ s
  rw [if_neg (by decide)]
  refine wpAny_bind (HT.slicePart_ pl (wpAny_bind (HT.slicePart_ .none (wpAny_bind (wpAny_pure ?_)))))
  show wpAny _ _ (match Builtin.Slice.sliceAdjust lo none 2 (n : Int) with | (lo, hi) => pure (lo, (2 : Int), Builtin.Slice.slicePlaces lo hi 2)) _ _ s
  rw [adjust_two lo n]
  show wpAny _ _ (pure (((HT.sIx n 0 lo : Nat) : Int), (2 : Int), Builtin.Slice.slicePlaces ((HT.sIx n 0 lo : Nat) : Int) (n : Int) 2)) _ _ s
  rw [places_two _ _ (HT.sIx_le _ _ (Nat.zero_le _) lo)]
  exact wpAny_pure h
theorem pick_two (xs : Array Value) (i : Nat) : ((List.range ((xs.size - i + 1) / 2)).filterMap fun (m : Nat) => xs[((i : Int) + (m : Int) * 2).toNat]?).toArray = (ev2 (xs.toList.drop i)).toArray := by
  have e : (fun (m : Nat) => xs[((i : Int) + (m : Int) * 2).toNat]?) = fun m => (xs.toList.drop i)[m * 2]? := by
    funext m
    have : ((i : Int) + (m : Int) * 2).toNat = i + m * 2 := by omega
    rw [this, List.getElem?_drop, Array.getElem?_toList]
  rw [e, ← pick2 (xs.toList.drop i), List.length_drop, Array.length_toList]
theorem getItem_tuple_two {t sl : Addr} {items : Array Value} {vl vs : Value} {lo : Option Int} {Q : Value → Shared → Prop} (ht : IsTup s.heap t items) (hs : s.heap.IsSliceOf sl vl .none vs) (pl : IsPart vl lo) (ps : IsPart vs (some 2))
    (h : Q (.ref s.heap.objs.size) { s with heap := s.heap.push { cls := .type "tuple", data := .seq (ev2 (items.toList.drop (HT.sIx items.size 0 lo))).toArray } })
    (hsz : items.size ≤ sizeLine) : wpAny (model prog w) A (getItem (.ref t) (.ref sl)) Q E s := by
  have htake : sizeOk (.seq (ev2 (items.toList.drop (HT.sIx items.size 0 lo))).toArray) := by
    show (ev2 (items.toList.drop (HT.sIx items.size 0 lo))).toArray.size ≤ sizeLine
    have := ev2_len (items.toList.drop (HT.sIx items.size 0 lo))
    have e : items.toList.length = items.size := Array.length_toList
    rw [List.length_drop, e] at this
    rw [List.size_toArray]
    omega
  obtain ⟨os, hos, hcs, hds⟩ := id hs
  have hTs : s.TypeIs (.ref sl) "slice" := ⟨os, hos, hcs⟩
  unfold getItem
  try with_reducible refine wpAny_holding ?_
  first | refine wpAny_bind (wpAny_pure ?_) | skip
  refine wpAny_bind (wpAny_sequenceKey ht.typeIs (by decide) ?_)
  refine wpAny_bind (wpAny_callSpecial?_slot (name := Str.ofString "__getitem__") ht.typeIs PyProof.Rows.slot_tuple_getitem
    (wpAny_call_entry PyProof.Rows.slot_tuple_getitem ht.typeIs entry_tuple_getitem ?_ (args_tuple_getitem _ _)))
  show wpAny _ _ (Builtin.Tuple.tupleItemsOf (.ref t) >>= _) _ _ s
  refine wpAny_bind (tupleItemsOf_ ht ?_)
  refine wpAny_bind (wpAny_typeOf hTs ?_)
  rw [if_pos (by decide)]
  refine wpAny_bind (sliceApplied_two hs pl ps ?_)
  have hno : ¬ ((((HT.sIx items.size 0 lo : Nat) : Int) == 0 && (2 : Int) == 1 && ((items.size - HT.sIx items.size 0 lo + 1) / 2) == items.size) = true) := by
    intro q
    rw [Bool.and_eq_true, Bool.and_eq_true] at q
    exact absurd q.1.2 (by decide)
  show wpAny _ _ (if (((HT.sIx items.size 0 lo : Nat) : Int) == 0 && (2 : Int) == 1 && ((items.size - HT.sIx items.size 0 lo + 1) / 2) == items.size) = true then _ else _) _ _ s
  rw [if_neg hno, pick_two]
  first
    | exact wpAny_bind (m := Builtin.Tuple.tupleExact _) (wpAny_newObj_type (wpAny_pure ⟨_, rfl, wpAny_pure h⟩) htake)
    | exact wpAny_bind (m := Builtin.Tuple.tupleExact _) (wpAny_newObj_type (wpAny_bind (wpAny_pure (wpAny_pure ⟨_, rfl, wpAny_pure h⟩))) htake)
    | exact wpAny_bind (wpAny_bind (m := Builtin.Tuple.tupleExact _) (wpAny_newObj_type (wpAny_pure (wpAny_pure ⟨_, rfl, wpAny_pure h⟩)) htake))
    | exact wpAny_bind (wpAny_bind (m := Builtin.Tuple.tupleExact _) (wpAny_newObj_type (wpAny_pure ⟨_, rfl, wpAny_pure h⟩) htake))
end
/-- t[k::2] -/
def tTwoT (K : PySem.W.Frag) (te : TE) (tl : TO) : TE := fun σ H Q => te σ H fun x H1 => tl σ H1 fun lo H2 => ∃ a xs, x = .ref a ∧ SqT K H2 a xs ∧ ∀ p, H2 p = none → Q (.ref p) (upd H2 p (.tup (ev2 (xs.drop (HT.sIx xs.length 0 lo)))))
section
variable {X : Cx}
theorem pe_twoT {e : Expr} {lo : Option Expr} {te : TE} {tl : TO} {k : Nat} {p2 p3 pos : Pos} (he : PE X e te) (hl : PO X lo tl) : PE X (.Subscript e (.Slice lo none (some (.Constant (.int 2) k p2)) p3) pos) (tTwoT X.K te tl) := by
  refine ⟨fun pins s σ H Q I h => ?_⟩
  refine Subscript_ (thn (he.run pins s σ H _ I h) fun v s1 ⟨x, H1, I1, r1, q1⟩ => ?_)
  have hst : PO X (some (.Constant (.int 2) k p2)) (tPart (tC (.int 2))) := po_some pe_int
  refine wpAny_Slice (thn (hl.run pins s1 σ H1 _ I1 q1) fun vl s2 ⟨l, H2, I2, pl, a, xs, ex, hx, q⟩ => ?_)
  subst ex
  cases r1
  refine thn (po_none.run pins s2 σ H2 (fun o H3 => o = none ∧ H3 = H2) I2 ⟨rfl, rfl⟩) fun vu s3 ⟨u, H3, I3, pu, eu, e3⟩ => ?_
  subst eu e3
  refine thn (hst.run pins s3 σ H3 (fun o H4 => o = some 2 ∧ H4 = H3) I3 ⟨2, rfl, rfl, rfl⟩) fun vs s4 ⟨o, H4, I4, ps, eo, e4⟩ => ?_
  subst eo e4
  have I5 : Inv X pins σ H4 { s4 with heap := s4.heap.push { cls := .type "slice", data := .fields #[vl, vu, vs] } } := I4.kept (t' := s4.toks) fun b ob q => Heap.get?_push_of_some _ q
  obtain ⟨its, r, ht, hz⟩ := I5.tuple hx
  have hlen : its.toArray.size = xs.length := by rw [List.size_toArray]; exact r.length.symm
  have hvu : vu = .none := by cases pu; rfl
  subst hvu
  show wpAny (model X.prog X.w) X.A (subscriptTail e (.Slice lo none (some (.Constant (.int 2) k p2)) p3) (.ref a) (.ref s4.heap.objs.size)) (EP X pins σ Q) X.xe { s4 with heap := s4.heap.push { cls := .type "slice", data := .fields #[vl, .none, vs] } }
  refine tail_any (ops := [.ref a, .ref s4.heap.objs.size]) ht.typeIs (PyProof.Rows.slot_tuple_getitem.lookup) ?_ (by with_unfolding_all rfl)
  refine getItem_tuple_two ht (Heap.IsSliceOf.new _ vl .none vs) pl ps ?_ (by rw [hlen]; exact hz)
  rw [hlen]
  refine ⟨.ref _, _, I5.laid (t' := s4.toks) (o := .tup (ev2 (xs.drop (HT.sIx xs.length 0 l)))) (fun b ob q => Heap.get?_push_of_some _ q) (Nat.le_refl _) ?_, rfl, q _ (I5.hok.fresh (Nat.le_refl _))⟩
  have hle := ev2_len (xs.drop (HT.sIx xs.length 0 l))
  rw [List.length_drop] at hle
  exact ⟨by omega, _, vals_ev2 (r.drop (HT.sIx xs.length 0 l)), IsTup.new _ _⟩
end
end HP
/-! zip of a tuple and a text -/
namespace HE
open PySem PySem.Spec PySem.Calls PyProof.Rows L2 RZ
open Sem (wp)
/-- a tuple at b and the signs of x, as they stand at each turn -/
def ItzTS (K : PySem.W.Frag) (b : Addr) (x : Str) : It :=
  ⟨fun i H => ∃ (ys : List V) (y : V), SqT K H b ys ∧ i < x.cps.size ∧ ys[i]? = some y,
    fun i H v H' => ∃ (T : Addr) (c : Nat) (y : V), v = .ref T ∧ H T = none ∧ H' = upd H T (.tup [y, .str ⟨#[c]⟩]) ∧ x.cps[i]? = some c ∧ ∀ ys, SqT K H b ys → ys[i]? = some y,
    fun i H => ∃ ys : List V, SqT K H b ys ∧ i ≤ x.cps.size ∧ i ≤ ys.length ∧ (x.cps.size ≤ i ∨ ys.length ≤ i)⟩
def ZTtS (z TI TO i1 i2 b : Addr) (x : Str) (t : Tok) (i : Nat) (h : Heap) : Prop := IsZip h z TI TO .none ∧ IsTupOf2 h TI (.ref i1) (.ref i2) ∧ (∃ x y, IsTupOf2 h TO x y) ∧ h.IsTupleIter i1 b i ∧ h.IsStrIter i2 (strIterType x) x t i
theorem ZTtS.live {z TI TO i1 i2 b : Addr} {x : Str} {t : Tok} {i : Nat} {h : Heap} (st : ZTtS z TI TO i1 i2 b x t i h) {c : Addr} (hc : c ∈ [z, TI, TO, i1, i2]) : ∃ o, h.get? c = some o ∧ ∀ v, o.data ≠ .cell v := by
  obtain ⟨h1, h2, ⟨x, y, h3⟩, ⟨p, e4, _, d4⟩, ⟨q, e5, _, d5⟩⟩ := st
  rcases mem5 hc with e | e | e | e | e <;> subst e
  · exact ⟨_, h1, fun v q => nomatch q⟩
  · exact ⟨_, h2, fun v q => nomatch q⟩
  · exact ⟨_, h3, fun v q => nomatch q⟩
  · exact ⟨p, e4, fun v q => by rw [d4] at q; cases q⟩
  · exact ⟨q, e5, fun v z => by rw [d5] at z; cases z⟩
theorem sep_ofT {n b : Addr} (hb : b < n) : ZipSep2 (n + 4) (n + 2) (n + 3) n (n + 1) [n, b] [n + 1] := by
  have e : ∀ k j : Nat, k ≠ j → n + k ≠ n + j := fun k j h z => h (Nat.add_left_cancel z)
  have ne : ∀ {c : Addr} (k : Nat), c < n → n + k ≠ c := fun k h z => Nat.lt_irrefl n (Nat.lt_of_le_of_lt (Nat.le_add_right n k) (z ▸ h))
  constructor
  · exact e 2 4 (by decide)
  · exact e 3 4 (by decide)
  · exact e 2 3 (by decide)
  · exact e 2 0 (by decide)
  · simp
  · simp only [List.mem_cons, List.not_mem_nil, or_false, not_or]; exact ⟨e 4 0 (by decide), ne 4 hb⟩
  · simp only [List.mem_cons, List.not_mem_nil, or_false, not_or]; exact ⟨e 3 0 (by decide), ne 3 hb⟩
  · exact e 2 1 (by decide)
  · simp
  · simp only [List.mem_cons, List.not_mem_nil, or_false, not_or]; exact e 4 1 (by decide)
  · simp only [List.mem_cons, List.not_mem_nil, or_false, not_or]; exact e 3 1 (by decide)
  · simp only [List.mem_cons, List.not_mem_nil, or_false, not_or]; exact e 0 1 (by decide)
  · simp only [List.mem_cons, List.not_mem_nil, or_false, not_or]; exact ⟨e 1 0 (by decide), ne 1 hb⟩
theorem turn_zipTS {P : Program} {w : World} {K : PySem.W.Frag} {elts : List Expr} {kk : Nat} {tpos : Pos} {x : Str} {t : Tok} {b z TI TO i1 i2 : Addr} (D : ZipSep2 z TI TO i1 i2 [i1, b] [i2]) (hbi : b ≠ i1) (hz1 : i1 ≠ z) (hz2 : i2 ≠ z) :
    Turn P w K (.Tuple elts kk tpos) (ItzTS K b x) [z, TI, TO, i1, i2] z (ZTtS z TI TO i1 i2 b x t) where
  mem := by simp
  obj := fun i h st c hc => st.live hc
  keep := fun i h h' st k => by
    obtain ⟨h1, h2, ⟨x, y, h3⟩, h4, h5⟩ := st
    exact ⟨k z (by simp) _ h1, k TI (by simp) _ h2, ⟨x, y, k TO (by simp) _ h3⟩, h4.at fun o q => k i1 (by simp) o q, strIter_at h5 fun o q => k i2 (by simp) o q⟩
  item := by
    intro X hP hw hK hc i pins s σ H E I hf st hg
    subst hP hw hK
    obtain ⟨g1, g2, ⟨x0, y0, g3⟩, g4, g5⟩ := id st
    obtain ⟨ys, y, hqy, hx, hy⟩ := hg
    obtain ⟨its2, rv2, p2, _⟩ := I.tuple hqy
    obtain ⟨u2, hu2, ru2⟩ := rv2.get hy
    have ht : s.heap.IsTuple b its2.toArray := p2
    have lt2 : i < its2.toArray.size := by have := (List.getElem?_eq_some_iff.mp hu2).1; simpa using this
    have zl : z < s.heap.objs.size := Heap.lt_size g1
    refine wpAny_pyNext_zipD2_item D (PySem.Draws.tuple (A := X.A.in1) (I.ok.hd hc) i1 b hbi its2.toArray) (PySem.Draws.text (A := X.A.in1) (I.ok.hd hc) i2 x t) g1 g2 g3 ⟨g4, ht⟩ g5 lt2 hx
      fun v2 v1 h' tk e2 e1 z' t' s2 s1 hT hsz hk => ?_
    obtain ⟨c, uc, hcc, rfl⟩ := e1
    have ev2 : v2 = u2 := by
      have h1 : its2.toArray[i]? = some u2 := by simpa using hu2
      rw [e2] at h1
      exact Option.some.inj h1
    subst ev2
    refine ⟨_, rfl, wpAny_letOwnedTupleGo_zip (s := { s with heap := h', toks := tk }) z' fun h2 z2 sb => ?_⟩
    have nz : s.heap.objs.size ≠ z := Nat.ne_of_gt zl
    have hT2 : h2.get? s.heap.objs.size = some { cls := .type "tuple", data := .seq #[v2, .str ⟨#[c]⟩ uc] } := (sb.2 _ nz).trans hT
    have old : ∀ c o, c ∉ [z, TI, TO, i1, i2] → s.heap.get? c = some o → h2.get? c = some o := fun c o hm q => by
      simp only [List.mem_cons, List.not_mem_nil, or_false, not_or] at hm
      exact (sb.2 c hm.1).trans (hk c o hm.1 hm.2.2.1 hm.2.2.2.1 hm.2.2.2.2 q)
    have new : ObjOk X.prog X.w (upd H s.heap.objs.size (.tup [y, .str ⟨#[c]⟩])) h2 s.heap.objs.size (.tup [y, .str ⟨#[c]⟩]) :=
      ⟨by show 2 ≤ sizeLine; decide, [v2, .str ⟨#[c]⟩ uc], .cons ru2 (.cons ⟨uc, rfl⟩ .nil), ⟨_, hT2, rfl, _, rfl⟩⟩
    have I1 := I.turnedNew (t' := tk) (ch := [z, TI, TO, i1, i2]) (h' := h2) old hf (Nat.le_refl _) new
    refine ⟨.ref s.heap.objs.size, _, I1, rfl, ⟨_, c, y, rfl, I.hok.fresh (Nat.le_refl _), rfl, hcc, fun l hl => by rw [I.tuple_inj hl hqy]; exact hy⟩,
      ⟨z2, (sb.2 _ D.TIz).trans (hk _ _ D.TIz D.TITO D.TIi1 D.TIi2 g2), ⟨v2, _, (sb.2 _ D.TOz).trans t'⟩, s2.1.at fun o q => (sb.2 _ hz1).trans q, strIter_at s1 fun o q => (sb.2 _ hz2).trans q⟩, fun c hm => ?_⟩
    obtain ⟨o, ho, _⟩ := st.live hm
    rw [upd_ne (Nat.ne_of_lt (Heap.lt_size ho))]
    exact (hf c hm).1
  done := by
    intro X hP hw hK hc i pins s σ H E I hf st hg
    subst hP hw hK
    obtain ⟨g1, g2, ⟨x0, y0, g3⟩, g4, g5⟩ := st
    obtain ⟨ys, hqy, hi1, hi2, hend⟩ := hg
    obtain ⟨its2, rv2, p2, _⟩ := I.tuple hqy
    have ht : s.heap.IsTuple b its2.toArray := p2
    have l2 := rv2.length
    have fin : ∀ (h' : Heap) (tk : Nat), (∀ c o, c ≠ z → c ≠ TO → c ≠ i1 → c ≠ i2 → s.heap.get? c = some o → h'.get? c = some o) → (none : Option Value) = none ∧ Inv X pins σ H { s with heap := h', toks := tk } := fun h' tk hk =>
      ⟨rfl, I.turnedL (t' := tk) (ch := [z, TI, TO, i1, i2]) (fun c o hb q => by
        simp only [List.mem_cons, List.not_mem_nil, or_false, not_or] at hb
        exact hk c o hb.1 hb.2.2.1 hb.2.2.2.1 hb.2.2.2.2 q) hf⟩
    have hh := I.ok.hd hc
    refine wpAny_pyNext_zipD2_end D (PySem.Draws.tuple (A := X.A.in1) hh i1 b hbi its2.toArray) (PySem.Draws.text (A := X.A.in1) hh i2 x t) g1 g2 g3 ⟨g4, ht⟩ g5 (by simp only [List.size_toArray]; omega) hi1 ?_ fin
    rcases hend with h | h
    · exact .inr (by omega)
    · exact .inl (by simp only [List.size_toArray]; omega)
  self := fun A i s Q E st h => wpAny_pyIter_zip st.1 h
def iZipTS (K : PySem.W.Frag) (ta : TA) : TI := fun σ H R => ta σ H fun vs H1 => ∃ (x : Str) (b : Addr) (ys : List V), vs = [.ref b, .str x] ∧ SqT K H1 b ys ∧ R (ItzTS K b x) H1
theorem pi_zipTS {X : Cx} {e e2 : Expr} {ta : TA} {p pos tpos : Pos} {elts : List Expr} {kk : Nat} (hg : Gl X "zip") (hm : X.mg "zip" = none) (ha : PA X [e, e2] ta)
    (hs : starEach [e, e2] X.env = (false, eval e X.env) :: starEach [e2] X.env := by rfl) (hpl : (backTo pos (starEach [e2] X.env)).any (·.1) = false := by rfl) :
    PI X (.Tuple elts kk tpos) (.Call (.Name "zip" p) [e, e2] [] pos) (iZipTS X.K ta) := by
  refine ⟨fun pins s σ H R I h => ?_⟩
  refine Call_ (ld_blt I hg hm PyProof.Rows.boot_zip (PyProof.Rows.callWith_type1 (thn (ha.run pos pins s σ H _ I h) fun us s1 ⟨vs, H1, I1, r1, x, b, ys, ex, hqy, q⟩ => ?_) hs hpl))
  subst ex
  obtain ⟨u1, u2, rfl, ra, rb⟩ := vals2 r1
  obtain ⟨t, rfl⟩ := rb
  cases ra
  obtain ⟨its2, rv2, p2, _⟩ := I1.tuple hqy
  have ht : s1.heap.IsTuple b its2.toArray := p2
  have bl : b < s1.heap.objs.size := by obtain ⟨_, e, _⟩ := ht; exact Heap.lt_size e
  refine zip_begins2 (begins_tuple b its2.toArray) (begins_text x t) ht trivial fun h' hz hTI hTO k1 k2 hsz hk => wpAny_pyIter_zip hz ?_
  have I2 : Inv X pins σ H1 { s1 with heap := h' } := I1.kept (t' := s1.toks) hk
  have n1 : ∀ k : Nat, s1.heap.objs.size + (k + 1) ≠ s1.heap.objs.size := fun k z => absurd (Nat.add_left_cancel (show s1.heap.objs.size + (k + 1) = s1.heap.objs.size + 0 from z)) (Nat.succ_ne_zero k)
  have n2 : s1.heap.objs.size + 1 ≠ s1.heap.objs.size + 4 := fun z => absurd (Nat.add_left_cancel z) (by decide)
  refine ⟨s1.heap.objs.size + 4, _, _, _, H1, rfl, I2, turn_zipTS (x := x) (t := t) (sep_ofT bl) (Nat.ne_of_lt bl) (Ne.symm (n1 3)) n2, ⟨hz, hTI, ⟨_, _, hTO⟩, ⟨_, k1, rfl, rfl⟩, ⟨_, k2, rfl, rfl⟩⟩, fun c hm => ?_, q⟩
  have hle : s1.heap.objs.size ≤ c := by
    rcases mem5 hm with e | e | e | e | e <;> rw [e]
    · exact Nat.le_add_right _ _
    · exact Nat.le_add_right _ _
    · exact Nat.le_add_right _ _
    · exact Nat.le_refl _
    · exact Nat.le_add_right _ _
  exact I1.fpOk hle (I1.hok.fresh hle)
theorem walk_zipTS {K : PySem.W.Frag} {x : Str} {b : Addr} {ys : List V} {n : Nat} (hn : n = min x.cps.size ys.length) : Walk (ItzTS K b x) n (fun H => SqT K H b ys) (YPair (fun i => ys[i]?) (fun i => (x.cps[i]?).map fun c => .str ⟨#[c]⟩)) := by
  subst hn
  refine ⟨fun i H hi q => ?_, fun _ q => ⟨ys, q, by omega, by omega, by omega⟩, fun i H v H' _ q y => ?_⟩
  · have h1 : i < x.cps.size := by omega
    have h2 : i < ys.length := by omega
    exact ⟨ys, ys[i], q, h1, by simp [h2]⟩
  · obtain ⟨T, c, y, e1, e2, e3, e4, e5⟩ := y
    exact ⟨T, y, .str ⟨#[c]⟩, e1, e2, e3, e5 ys q, by show (x.cps[i]?).map _ = _; rw [e4]; rfl⟩
end HE
/-! data with new lists and empty dicts in it: isinstance and repr -/
namespace HM
open PySem PySem.Spec PyProof.Rows L2 HB HX HD
mutual
inductive Dx (K : PySem.W.Frag) (A : Addr → Prop) (H : Hp) : V → PyData → Prop
  | non : Dx K A H .non .none
  | bl (b : Bool) : Dx K A H (.bl b) (.bool b)
  | int (i : Int) : Dx K A H (.int i) (.int i)
  | str (x : Str) : Dx K A H (.str x) (.str x)
  | lst {a : Addr} {xs : List V} {ds : List PyData} : A a → H a = some (.lst xs) → DxAll K A H xs ds → Dx K A H (.ref a) (.list ds)
  | emp {a : Addr} : A a → H a = some (.dK []) → Dx K A H (.ref a) (.dict [])
  | tup {a : Addr} {xs : List V} {ds : List PyData} : SqT K H a xs → DxAll K A H xs ds → Dx K A H (.ref a) (.tuple ds)
inductive DxAll (K : PySem.W.Frag) (A : Addr → Prop) (H : Hp) : List V → List PyData → Prop
  | nil : DxAll K A H [] []
  | cons {v : V} {vs : List V} {d : PyData} {ds : List PyData} : Dx K A H v d → DxAll K A H vs ds → DxAll K A H (v :: vs) (d :: ds)
end
section
variable {K : PySem.W.Frag} {A B : Addr → Prop} {H H' : Hp}
mutual
theorem Dx.keep (k : ∀ a o, A a → H a = some o → H' a = some o) (kt : ∀ (a : Addr) (xs : List V), SqT K H a xs → SqT K H' a xs) (ab : ∀ a o, A a → H a = some o → B a) : ∀ {v : V} {d : PyData}, Dx K A H v d → Dx K B H' v d
  | _, _, .non => .non
  | _, _, .bl b => .bl b
  | _, _, .int i => .int i
  | _, _, .str x => .str x
  | _, _, .lst h1 h2 h3 => .lst (ab _ _ h1 h2) (k _ _ h1 h2) (DxAll.keep k kt ab h3)
  | _, _, .emp h1 h2 => .emp (ab _ _ h1 h2) (k _ _ h1 h2)
  | _, _, .tup h1 h2 => .tup (kt _ _ h1) (DxAll.keep k kt ab h2)
theorem DxAll.keep (k : ∀ a o, A a → H a = some o → H' a = some o) (kt : ∀ (a : Addr) (xs : List V), SqT K H a xs → SqT K H' a xs) (ab : ∀ a o, A a → H a = some o → B a) : ∀ {vs : List V} {ds : List PyData}, DxAll K A H vs ds → DxAll K B H' vs ds
  | _, _, .nil => .nil
  | _, _, .cons h t => .cons (Dx.keep k kt ab h) (DxAll.keep k kt ab t)
end
theorem Dx.same {v : V} {d : PyData} (h : Dx K A H v d) (s : Same H H') : Dx K A H' v d := h.keep (fun a o _ e => s a o e) (fun _ _ e => s.sqt e) fun _ _ e _ => e
theorem DxAll.same {vs : List V} {ds : List PyData} (h : DxAll K A H vs ds) (s : Same H H') : DxAll K A H' vs ds := h.keep (fun a o _ e => s a o e) (fun _ _ e => s.sqt e) fun _ _ e _ => e
mutual
theorem Dx.of : ∀ {v : V} {d : PyData}, HK.tupD d = true → Dp K H v d → Dx K A H v d
  | _, _, _, .non => .non
  | _, _, _, .bl b => .bl b
  | _, _, _, .int i => .int i
  | _, _, _, .str x => .str x
  | _, _, t, .lst h j => by cases t
  | _, _, t, .tup h j => .tup h (DxAll.of t j)
theorem DxAll.of : ∀ {vs : List V} {ds : List PyData}, HK.tupAll ds = true → DpAll K H vs ds → DxAll K A H vs ds
  | _, _, _, .nil => .nil
  | _, _, t, .cons h j => by
    simp only [HK.tupAll, Bool.and_eq_true] at t
    exact .cons (Dx.of t.1 h) (DxAll.of t.2 j)
end
mutual
theorem Dx.dp : ∀ {v : V} {d : PyData}, HK.tupD d = true → Dx K A H v d → Dp K H v d
  | _, _, _, .non => .non
  | _, _, _, .bl b => .bl b
  | _, _, _, .int i => .int i
  | _, _, _, .str x => .str x
  | _, _, t, .lst _ h j => by cases t
  | _, _, t, .emp _ h => by cases t
  | _, _, t, .tup h j => .tup h (DxAll.dp t j)
theorem DxAll.dp : ∀ {vs : List V} {ds : List PyData}, HK.tupAll ds = true → DxAll K A H vs ds → DpAll K H vs ds
  | _, _, _, .nil => .nil
  | _, _, t, .cons h j => by
    simp only [HK.tupAll, Bool.and_eq_true] at t
    exact .cons (Dx.dp t.1 h) (DxAll.dp t.2 j)
end
theorem dxAll_len : ∀ {vs : List V} {ds : List PyData}, DxAll K A H vs ds → vs.length = ds.length
  | _, _, .nil => rfl
  | _, _, .cons _ t => congrArg (· + 1) (dxAll_len t)
/-- the kind's name, of dicts too -/
def kindX : PyData → String
  | .dict _ => "dict"
  | d => kindD d
theorem dx_ty {v : V} {d : PyData} (h : Dx K A H v d) : TyX K H v (.type (kindX d)) ∧ kindX d ∈ ["NoneType", "bool", "int", "str", "list", "tuple", "dict"] := by
  cases h with
  | non => exact ⟨.base .non, by simp [kindX, kindD]⟩
  | bl b => exact ⟨.base (.bl b), by simp [kindX, kindD]⟩
  | int i => exact ⟨.base (.int i), by simp [kindX, kindD]⟩
  | str x => exact ⟨.base (.str x), by simp [kindX, kindD]⟩
  | lst _ h _ => exact ⟨.base (.lst h), by simp [kindX, kindD]⟩
  | emp _ h => exact ⟨.base (.dK h), by simp [kindX]⟩
  | tup h _ =>
    refine ⟨?_, by simp [kindX, kindD]⟩
    rcases h with (h | ⟨o, h⟩) | ⟨o, its, n, h, c, _⟩
    · exact .base (.tup h)
    · exact .fTuple h
    · exact .kTuple h c
theorem kit_x {d : PyData} {k : String} (hk : k ∈ ["str", "tuple", "bool", "list", "dict"]) (h : kindX d ∈ ["NoneType", "bool", "int", "str", "list", "tuple", "dict"]) : PySem.W.kitOne K (.type (kindX d)) (.type k) = some (decide (kindX d = k)) := by
  have : kitB (kindX d) k = some (decide (kindX d = k)) := by
    generalize kindX d = j at h
    simp only [List.mem_cons, List.not_mem_nil, or_false] at hk h
    rcases hk with rfl | rfl | rfl | rfl | rfl <;> rcases h with rfl | rfl | rfl | rfl | rfl | rfl | rfl <;> decide +kernel
  exact kit_ty this
theorem kit_xInt {d : PyData} (h : kindX d ∈ ["NoneType", "bool", "int", "str", "list", "tuple", "dict"]) : PySem.W.kitOne K (.type (kindX d)) (.type "int") = some (decide (kindX d = "int" ∨ kindX d = "bool")) := by
  have : kitB (kindX d) "int" = some (decide (kindX d = "int" ∨ kindX d = "bool")) := by
    generalize kindX d = j at h
    simp only [List.mem_cons, List.not_mem_nil, or_false] at h
    rcases h with rfl | rfl | rfl | rfl | rfl | rfl | rfl <;> decide +kernel
  exact kit_ty this
end
section
variable {X : Cx} {pins : List (Addr × Obj)} {σ : L2.St} {H : Hp} {s : Shared} {A : Addr → Prop}
theorem no_sys (hs : (X.K.lookup sysModules).isSome = true) (I : Inv X pins σ H s) : H sysModules = none := by
  obtain ⟨o, ho⟩ := Option.isSome_iff_exists.mp hs
  exact (I.bs _ _ (I.mod.kin _ _ ho)).2
mutual
theorem Dx.reads (hs : (X.K.lookup sysModules).isSome = true) (I : Inv X pins σ H s) : ∀ (d : PyData) (v : V) (u : Value), Dx X.K A H v d → RelV v u → ∃ as, Reads s.heap u d as ∧ sysModules ∉ as
  | .none, _, _, h, r => by
    cases h
    cases r
    exact ⟨_, Reads.none, List.not_mem_nil⟩
  | .bool b, _, _, h, r => by
    cases h
    cases r
    exact ⟨_, Reads.bool b, List.not_mem_nil⟩
  | .int i, _, _, h, r => by
    cases h
    obtain ⟨t, rfl⟩ := r
    exact ⟨_, Reads.int i t, List.not_mem_nil⟩
  | .str x, _, _, h, r => by
    cases h
    obtain ⟨t, rfl⟩ := r
    exact ⟨_, Reads.str x t, List.not_mem_nil⟩
  | .list ds, _, _, h, r => by
    cases h with
    | lst _ hs2 ha =>
      cases r
      obtain ⟨its, rv, ⟨o, n, ho, hc, _, hd⟩, _⟩ := I.list (.inl (.inl hs2))
      obtain ⟨as, hr, hn⟩ := Dx.readsAll hs I ds _ its ha rv
      refine ⟨_, Reads.list ho hc hd hr, fun m => ?_⟩
      rcases List.mem_cons.mp m with e | m
      · rw [← e, no_sys hs I] at hs2
        cases hs2
      · exact hn m
  | .tuple ds, _, _, h, r => by
    cases h with
    | tup hs2 ha =>
      cases r
      obtain ⟨its, rv, ⟨o, ho, hc, n, hd⟩, _⟩ := I.tuple hs2
      obtain ⟨as, hr, hn⟩ := Dx.readsAll hs I ds _ its ha rv
      exact ⟨_, Reads.tuple ho hc hd hr, hn⟩
  | .dict _, _, _, h, r => by
    cases h with
    | emp _ h2 =>
      cases r
      obtain ⟨_, _, vs, rel, o, es, ep, ho, hx, hd, _, hp, _⟩ := dk_of I.hok h2
      cases rel
      have e0 : es.toList = [] := by
        generalize es.toList = l at hp
        cases hp
        rfl
      refine ⟨_, Reads.dict (as := []) (bs := []) ho hx.1 hd (by rw [e0]; exact .nil) (by rw [e0]; exact .nil), fun m => ?_⟩
      rcases List.mem_cons.mp m with e | m
      · rw [← e, no_sys hs I] at h2
        cases h2
      · cases m
theorem Dx.readsAll (hs : (X.K.lookup sysModules).isSome = true) (I : Inv X pins σ H s) : ∀ (ds : List PyData) (vs : List V) (us : List Value), DxAll X.K A H vs ds → Vals vs us → ∃ as, ReadsAll s.heap us ds as ∧ sysModules ∉ as
  | [], _, _, h, r => by
    cases h
    cases r
    exact ⟨_, ReadsAll.nil, List.not_mem_nil⟩
  | d :: ds, _, _, h, r => by
    cases h with
    | cons h1 h2 =>
      cases r with
      | cons r1 r2 =>
        obtain ⟨as, q1, n1⟩ := Dx.reads hs I d _ _ h1 r1
        obtain ⟨bs, q2, n2⟩ := Dx.readsAll hs I ds _ _ h2 r2
        exact ⟨_, ReadsAll.cons q1 q2, fun m => (List.mem_append.mp m).elim n1 n2⟩
end
def rReprX (K : PySem.W.Frag) : List V → Hp → VK → Prop := fun vs H Q => ∃ (A : Addr → Prop) (a : Addr) (d : PyData), vs = [.ref a] ∧ Dx K A H (.ref a) d ∧ d.showable = true ∧ d.depth ≤ 60 ∧ d.shown.length ≤ sizeLine ∧ Q (.str d.shown) H
theorem call_reprX (hs : (X.K.lookup sysModules).isSome = true) (sh : HG.Shut X.A) (hu : X.A.units + 64 < cLine) : CallR X (.builtin "repr") (rReprX X.K) := by
  intro pins s σ H vs us Q I r h
  obtain ⟨A, a, d, rfl, hd, sw, dep, len, q⟩ := h
  obtain ⟨u, rfl, rx⟩ := vals1 r
  obtain ⟨as, r1, nm⟩ := Dx.reads hs I d _ u hd rx
  cases rx
  exact repr_of_reads' r1 sw (fun _ => nm) sh (by omega) (fun _ _ e => e) (fun h' u tk hk => ⟨.str d.shown, H, I.kept hk, ⟨u, rfl⟩, q⟩) len
end
end HM
/-! isinstance of a caught error of an own class that has its own dict; methods that may raise, within a try -/
namespace HA
open PySem PySem.Spec PySem.Calls PyProof.Rows PySem.W
section
variable {prog : Program} {w : World} {A : Around} {E : Value → Shared → Prop} {s : Shared} {K : Frag} {x D : Addr} {ox : Obj} {od : Option Obj}
theorem findObj_dataX {C : Addr} {name : Str} {a g : Value} (hc : (clsIn K C).isSome = true) (ha : findIn K (.ref C) name = some (some a)) (hg : specialIn K a "__get__" = some (some g)) (ht : takesIn K a = some true) : findObj K C od name = some (.bind g a) := by
  obtain ⟨cd, hc⟩ := Option.isSome_iff_exists.mp hc
  unfold findObj
  rw [hc, Option.bind_some, ha, Option.bind_some]
  simp [hg, ht]
theorem kin_classX {Q : Option Value → Shared → Prop} (hga : findIn K (.ref D) "__getattribute__" = some (some (.builtin "BaseException.__getattribute__"))) (hgt : findIn K (.ref D) "__getattr__" = some none) (hsub : subIn K (.ref D) (.type "BaseException") = some true)
    (hdct : hasDictIn K D = true) (ha : findIn K (.ref D) "__class__" = some (some (.builtin "object.__class__")))
    (hn : specialIn K (.builtin "object.__class__") "__get__" = some (some (.builtin "getset_descriptor.__get__"))) (htk : takesIn K (.builtin "object.__class__") = some true) (hm : mroIn K D (.type "object") = some true)
    (X : K.In s.heap) (I : InstAt s.heap x ox D od) (h : Q (some (.ref D)) { s with toks := s.toks + 1 }) : wpAny (model prog w) A (getAttr? (.ref x) "__class__") Q E s := by
  have hf : findObj K D od "__class__" = some (.bind (.builtin "getset_descriptor.__get__") (.builtin "object.__class__")) := findObj_dataX (by obtain ⟨cd, hc, _⟩ := any_some hdct; rw [hc]; rfl) ha hn htk
  obtain ⟨hp, g, d, t, os⟩ := s
  have L0 := I.type (M := model prog w)
  have L1 := looks_findIn (M := model prog w) X hga
  have L2 := looks_findIn (M := model prog w) X hgt
  have L3 := looks_find (M := model prog w) X I hf
  have sub : Looks (model prog w) hp (isInstance (.ref x) (.type "BaseException")) true := L0.andThen (looks_subIn X hsub)
  have hx0 : (false && onTheHeap (Value.builtin "BaseException.__getattribute__")) = false := rfl
  have hx2 : (Value.builtin "BaseException.__getattribute__" == Value.builtin "object.__getattribute__") = false := by decide +kernel
  have hx1 : (onTheHeap (Value.ref D) && Value.builtin "BaseException.__getattribute__" == Value.builtin "object.__getattribute__") = false := by rw [hx2]; rfl
  unfold getAttr? getAttrBy? getAttrBy
  refine wpAny_bind (wpAny_mkText (wpAny_bind (wpAny_attempt (wpAny_holding (wpAny_bind (L0.at (wpAny_bind (L1.at ?_))))))))
  show wpAny _ _ (if (onTheHeap (Value.ref D) && Value.builtin "BaseException.__getattribute__" == Value.builtin "object.__getattribute__") = true then _ else _) _ _ _
  rw [hx1, if_neg Bool.false_ne_true]
  unfold getAttrByItsOwn hookBefore
  refine wpAny_bind ?_
  rw [if_pos (show onTheHeap (Value.ref D) = true from rfl)]
  refine L2.at ?_
  refine wpAny_bind (wpAny_attempt (wpAny_holding ?_))
  unfold callGetattribute
  rw [hx0, if_neg Bool.false_ne_true]
  unfold boundAndCalled
  rw [PySem.F.excAttr_ValueError.ga.bind (.ref x)]
  refine wpAny_bind (wpAny_pure ?_)
  show wpAny _ _ (call (.builtin "BaseException.__getattribute__") [.ref x, .str "__class__" t]) _ _ _
  refine wpAny_call (codeAny_call_builtin PySem.F.excAttr_ValueError.ga.plain PySem.F.entry_bexc_ga ?_)
  refine @check_slot (model prog w) _ _ ⟨hp, g, d, t + 1, os⟩ "BaseException.__getattribute__" "BaseException" "__getattribute__" (.ref x) [.str "__class__" t] [] _ (by decide +kernel) (by decide +kernel) sub (PySem.F.args_bexc_ga (.ref x) (.str "__class__" t)) ?_
  unfold Builtin.«object.__getattribute__»
  refine wpAny_bind (wpAny_of_eq (a := ((Value.ref x : Value), [Value.str "__class__" t])) (by first | rfl | (simp only [slotArgs]; rfl)) ?_)
  refine wpAny_bind (wpAny_pure (wpAny_bind (L0.at (wpAny_bind (L3.at ?_)))))
  show wpAny _ _ (holding [Value.builtin "object.__class__"] (call (.builtin "getset_descriptor.__get__") [.builtin "object.__class__", .ref x, .ref D]) >>= ret) _ _ _
  refine wpAny_bind (wpAny_holding (wpAny_call (class_get (s := ⟨hp, g, d, t + 1, os⟩) (ox := ox) (od := od) X I hm ?_)))
  refine wpAny_pure ?_
  show wpAny _ _ (handedOut (.ref D)) _ _ _
  rw [handedOut_of (v := .ref D) rfl]
  first
    | exact wpAny_pure (wpAny_pure h)
    | exact wpAny_pure h
    | exact wpAny_pure (wpAny_bind (wpAny_pure (wpAny_pure h)))
theorem kitx_exc (hga : findIn K (.ref D) "__getattribute__" = some (some (.builtin "BaseException.__getattribute__"))) (hgt : findIn K (.ref D) "__getattr__" = some none) (hsub : subIn K (.ref D) (.type "BaseException") = some true) (hdct : hasDictIn K D = true) (ha : findIn K (.ref D) "__class__" = some (some (.builtin "object.__class__")))
    (hn : specialIn K (.builtin "object.__class__") "__get__" = some (some (.builtin "getset_descriptor.__get__"))) (htk : takesIn K (.builtin "object.__class__") = some true) (hm : mroIn K D (.type "object") = some true) :
    KitX K (.ref x) (.ref D) (fun h => InstAt h x ox D od) where
  ty := fun _ _ _ I => I.type
  it := fun _ _ X _ => by
    obtain ⟨cdD, hcD, _⟩ := any_some hdct
    unfold clsIn at hcD
    split at hcD
    · rename_i c' d' cd' sl' ho
      intro A' Q' E' s' k q
      unfold isType loadHead
      exact wpAny_bind (wpAny_loadPart (k _ _ (X _ _ ho)) (wpAny_pure q))
    · cases hcD
  ne := fun h tp dd its n sl X htp => by
    obtain ⟨cdD, hcD, _⟩ := any_some hdct
    refine Bool.eq_false_iff.mpr fun q => ?_
    have e : D = tp := Value.ref.inj (beq_iff_eq.mp q)
    subst e
    unfold clsIn at hcD
    split at hcD
    · rename_i c' d' cd' sl' ho
      have z := (X _ _ ho).symm.trans htp
      cases z
    · cases hcD
  ca := fun X I k => kin_classX hga hgt hsub hdct ha hn htk hm X I k
end
end HA
namespace HA
open PySem PySem.Spec PyProof.Rows L2
theorem u65 {k : Nat} {A : Around} (r : Room k A) : A.units + 65 < cLine := by have := r.un; omega
/-- what the head asks of such a class -/
def ecB (K : PySem.W.Frag) (D : Addr) : Bool := decide (PySem.W.findIn K (.ref D) "__getattribute__" = some (some (.builtin "BaseException.__getattribute__"))) && (decide (PySem.W.findIn K (.ref D) "__getattr__" = some none) && (decide (PySem.W.subIn K (.ref D) (.type "BaseException") = some true) && (PySem.W.hasDictIn K D &&
  (decide (PySem.W.findIn K (.ref D) "__class__" = some (some (.builtin "object.__class__"))) && (decide (PySem.W.specialIn K (.builtin "object.__class__") "__get__" = some (some (.builtin "getset_descriptor.__get__"))) && (decide (PySem.W.takesIn K (.builtin "object.__class__") = some true) && decide (PySem.W.mroIn K D (.type "object") = some true)))))))
theorem ecB_ok {K : PySem.W.Frag} {D : Addr} (h : ecB K D = true) : ExcC K D := by
  unfold ecB at h
  simp only [Bool.and_eq_true, decide_eq_true_eq] at h
  obtain ⟨h1, h2, h3, h4, h5, h6, h7, h8⟩ := h
  exact ⟨h1, h2, h3, h4, h5, h6, h7, h8⟩
/-- isinstance(e, C), C an own class -/
def isB (C D : Str) (b : Bool) : PySem.W.Frag → Bool := fun K => decide (PySem.W.kitOne K (.ref (He.ga K C)) (.ref (He.ga K D)) = some b)
/-- isinstance(e, c), e the exception that the suite holds -/
def rIsX (K : PySem.W.Frag) (cls : Value) (d : Option Addr) (a : Addr) : List V → Hp → VK → Prop := fun xs H Q => ∃ (D C dd : Addr) (fs : List (Str × V)) (b : Bool), xs = [.ref a, .ref C] ∧ cls = .ref D ∧ ExcC K D ∧ d = some dd ∧ H dd = some (.xd fs) ∧ PySem.W.kitOne K (.ref D) (.ref C) = some b ∧ Q (.bl b) H
theorem call_isX {X : Cx} {a : Addr} {oe : Obj} {cls : Value} {d : Option Addr} {pn : List (Addr × Obj)} (hz : Zc cls d oe) (hf : ∃ vs, oe.data = .fields vs) : CallR (X.suite a ((a, oe) :: pn)) (.builtin "isinstance") (rIsX X.K cls d a) := by
  intro pins s σ H xs us Q I r h
  obtain ⟨D, c, dd, fs, b, rfl, rfl, C, rfl, hdd, e, q⟩ := h
  cases r with
  | cons rx rr =>
    cases rr with
    | cons rt rr =>
      cases rr
      cases rx
      cases rt
      obtain ⟨hget, _⟩ := I.pin (a, oe) (List.mem_append.mpr (.inl List.mem_cons_self))
      obtain ⟨vs, hv⟩ := hf
      have hx : ObjOk X.prog X.w H s.heap dd (.xd fs) := I.hok dd _ hdd
      obtain ⟨mA, hns, hr⟩ := hx
      obtain ⟨od, ho, hl⟩ := lookIn_ns hns
      have J : PySem.W.InstAt s.heap a oe D (some od) := ⟨hget, hz.1, by unfold PySem.W.notCls; rw [hv] <;> rfl, by rw [hz.2]; exact ho⟩
      exact PySem.W.kia_one (kitx_exc C.hg C.hk C.hs C.hd C.ha C.hn C.ht C.hm) I.kIn J e (fun z => nomatch z) fun tk => ⟨.bl b, H, I.kept (t' := tk) fun _ _ z => z, rfl, q⟩
section
variable {X : Cx} {CX : CXT} {k : Nat} {f C : Addr} {fd : FuncData} {ps : List Str} {sp : Sp} {E : L2.St → XK} {x m : Str} {p pos apos : Pos} {e o : Expr} {es : List Expr} {ta : TE} {t : TA}
def tMethX (C : Addr) (m : Str) (sp : Sp) (E : L2.St → XK) (ta : TE) (t : TA) : TE := fun σ H Q => ta σ H fun x H1 => ∃ (a dx : Addr) (fs : List (Str × V)), x = .ref a ∧ H1 a = some (.ins C dx fs) ∧ fs.lookup m = none ∧ t σ H1 fun vs H2 => sp (x :: vs) H2 Q (E σ)
/-- o.m(e, ..) that may raise, within a try -/
theorem pe_methX {pl : Sem Bool} (he : PE X o ta) (c : Cls X.K C) (hm : Meth X.K C m f) (F : FnOk X.prog X.w X.K X.mg X.base CX k f fd ps sp) (hr : Room k X.A) (hb : Binds X.K fd ps []) (hx : ∀ σ, PassesAt CX X σ (E σ)) (ha : PA X (e :: es) t)
    (hst : starEach (e :: es) X.env = (false, eval e X.env) :: starEach es X.env := by rfl) (hpl : (backTo pos (starEach es X.env)).any (·.1) = false := by rfl)
    (ht : eval (.Call (.Attribute o m apos) (e :: es) [] pos) X.env = (do
      let ov ← eval o X.env
      standAt apos.atName
      let (f, first) ← holding [ov] (getMethod ov m pl)
      callWith pos f first (backTo pos (starEach (e :: es) X.env)) (backToKw pos (keywordEach [] X.env))) := by rfl) :
    PE X (.Call (.Attribute o m apos) (e :: es) [] pos) (tMethX C m sp E ta t) := by
  refine ⟨fun pins s σ H Q I h => ?_⟩
  refine PySem.W.methodCall_KW (pl := pl) (thn (he.run pins s σ H _ I h) fun u s1 ⟨x, H1, I1, rx, a, dx, fs, ex, ea, l, q⟩ => ?_) ht
  subst ex
  obtain rfl : u = Value.ref a := rx
  refine getmeth_ok I1 ea c hm l ?_
  refine PySem.W.callWith_K (first := [.ref a]) (h₀ := X.base) I.ok.mod.kin hm.kp (thn (ha.run pos pins s1 σ H1 _ I1 q) fun us s2 ⟨vs, H2, I2, r, q2⟩ => ⟨I2.kIn, ?_⟩) hst hpl
  exact run_fnS (us := .ref a :: us) (vs := .ref a :: vs) F hr hb (hx σ) I2 (.cons rfl r) q2
/-- o.m() that may raise, within a try -/
theorem pe_methX0 {pl : Sem Bool} (he : PE X o ta) (c : Cls X.K C) (hm : Meth X.K C m f) (F : FnOk X.prog X.w X.K X.mg X.base CX k f fd ps sp) (hr : Room k X.A) (hb : Binds X.K fd ps []) (hx : ∀ σ, PassesAt CX X σ (E σ))
    (ht : eval (.Call (.Attribute o m apos) [] [] pos) X.env = (do
      let ov ← eval o X.env
      standAt apos.atName
      let (f, first) ← holding [ov] (getMethod ov m pl)
      callWith pos f first (backTo pos (starEach [] X.env)) (backToKw pos (keywordEach [] X.env))) := by rfl) :
    PE X (.Call (.Attribute o m apos) [] [] pos) (tMethX C m sp E ta tNil) := by
  refine ⟨fun pins s σ H Q I h => ?_⟩
  refine PySem.W.methodCall_KW (pl := pl) (thn (he.run pins s σ H _ I h) fun u s1 ⟨x, H1, I1, rx, a, dx, fs, ex, ea, l, q⟩ => ?_) ht
  subst ex
  obtain rfl : u = Value.ref a := rx
  refine getmeth_ok I1 ea c hm l ?_
  exact PySem.W.callWith_K0 (first := [.ref a]) I1.kIn hm.kp (run_fnS (us := [.ref a]) (vs := [.ref a]) F hr hb (hx σ) I1 (.cons rfl .nil) q)
end
end HA
/-! displays of data in one step: sums of tuples, slices, items; data with new lists in it -/
namespace HR
open PySem PySem.Spec PyProof.Rows L2 HB HX HD HK HM
def cutG {α : Type} (xs : List α) (lo hi : Option Int) : List α := (xs.drop (HT.sIx xs.length 0 lo)).take (HT.sIx xs.length xs.length hi - HT.sIx xs.length 0 lo)
section
variable {K : PySem.W.Frag} {A : Addr → Prop} {σ : L2.St} {H0 : Hp}
theorem dpAll_drop {H : Hp} : ∀ {n : Nat} {vs : List V} {xs : List PyData}, DpAll K H vs xs → DpAll K H (vs.drop n) (xs.drop n)
  | 0, _, _, h => h
  | n + 1, _, _, .nil => .nil
  | n + 1, _ :: _, _ :: _, .cons _ b => dpAll_drop (n := n) b
theorem dpAll_tk {H : Hp} : ∀ {n : Nat} {vs : List V} {xs : List PyData}, DpAll K H vs xs → DpAll K H (vs.take n) (xs.take n)
  | 0, _, _, _ => .nil
  | n + 1, _, _, .nil => .nil
  | n + 1, _, _, .cons a b => .cons a (dpAll_tk b)
theorem dpAll_cut {H : Hp} {vs : List V} {xs : List PyData} (h : DpAll K H vs xs) (lo hi : Option Int) : DpAll K H (cutV vs lo hi) (cutG xs lo hi) := by
  have e := dpAll_len h
  unfold cutV cutG
  rw [e]
  exact dpAll_tk (dpAll_drop h)
def MkP (σ : L2.St) (H0 : Hp) (tl : TO) (o : Option Int) : Prop := ∀ (H : Hp) (Q : Option Int → Hp → Prop), Same H0 H → (∀ H', Same H H' → Q o H') → tl σ H Q
theorem mkp_none : MkP σ H0 tNoPart none := fun H Q _ q => q H (Same.refl H)
theorem mkp_some {t : TE} {i : Int} (h : MkE K σ H0 t (.int i)) : MkP σ H0 (tPart t) (some i) := fun H Q s q => h H _ s fun v H' s' d => by
  cases d
  exact ⟨i, rfl, q H' s'⟩
theorem mk_cat {t u : TE} {ds es : List PyData} (h1 : MkE K σ H0 t (.tuple ds)) (h2 : MkE K σ H0 u (.tuple es)) (l : ds.length + es.length ≤ sizeLine) : MkE K σ H0 (tOp (HT2.rCatA K) t u) (.tuple (ds ++ es)) := fun H Q s q =>
  h1 H _ s fun v H1 s1 hv => h2 H1 _ (s.trans s1) fun w H2 s2 hw => by
    have hv2 := s2.dp hv
    obtain ⟨a, xs, rfl, _⟩ : ∃ (a : Addr) (xs : List V), v = .ref a ∧ SqT K H2 a xs := by
      cases hv2 with
      | tup h1 h2 => exact ⟨_, _, rfl, h1⟩
    obtain ⟨b, ys, rfl, _⟩ : ∃ (a : Addr) (xs : List V), w = .ref a ∧ SqT K H2 a xs := by
      cases hw with
      | tup h1 h2 => exact ⟨_, _, rfl, h1⟩
    exact cat_dp hv2 hw l fun p H3 s3 h3 => q _ H3 ((s1.trans s2).trans s3) h3
theorem mk_sl {t : TE} {tl th : TO} {ds : List PyData} {lo hi : Option Int} (h : MkE K σ H0 t (.tuple ds)) (hl : MkP σ H0 tl lo) (hh : MkP σ H0 th hi) : MkE K σ H0 (tSl (HT2.rSlA K) t tl th) (.tuple (cutG ds lo hi)) := fun H Q s q =>
  h H _ s fun v H1 s1 hv => hl H1 _ (s.trans s1) fun H2 s2 => hh H2 _ ((s.trans s1).trans s2) fun H3 s3 => by
    have hv3 := (s2.trans s3).dp hv
    have s03 := (s1.trans s2).trans s3
    cases hv3 with
    | @tup a xs _ h1 h2 =>
      refine ⟨_, _, rfl, h1, fun e => ?_, fun _ p np => ?_⟩
      · refine q _ H3 s03 (.tup h1 ?_)
        have : cutG ds lo hi = ds := by
          unfold cutG
          rw [← dpAll_len h2, e.1, e.2, dpAll_len h2]
          simp
        rw [this]
        exact h2
      · have sp := same_upd (o := .tup (cutV xs lo hi)) np
        exact q _ _ (s03.trans sp) (.tup (stt upd_same) (sp.dpAll (dpAll_cut h2 lo hi)))
theorem mk_add {t u : TE} {i j : Int} (h1 : MkE K σ H0 t (.int i)) (h2 : MkE K σ H0 u (.int j)) : MkE K σ H0 (tOp (rI0 fun i j => .int (i + j)) t u) (.int (i + j)) := fun H Q s q =>
  h1 H _ s fun v H1 s1 hv => h2 H1 _ (s.trans s1) fun w H2 s2 hw => by
    cases hv
    cases hw
    exact ⟨i, j, rfl, rfl, q _ H2 (s1.trans s2) (.int _)⟩
theorem mk_sub {t u : TE} {i j : Int} (h1 : MkE K σ H0 t (.int i)) (h2 : MkE K σ H0 u (.int j)) : MkE K σ H0 (tOp (rI0 fun i j => .int (i - j)) t u) (.int (i - j)) := fun H Q s q =>
  h1 H _ s fun v H1 s1 hv => h2 H1 _ (s.trans s1) fun w H2 s2 hw => by
    cases hv
    cases hw
    exact ⟨i, j, rfl, rfl, q _ H2 (s1.trans s2) (.int _)⟩
theorem mk_neg {t : TE} {i : Int} (h1 : MkE K σ H0 t (.int i)) : MkE K σ H0 (tUn (rU fun i => .int (-i)) t) (.int (-i)) := fun H Q s q =>
  h1 H _ s fun v H1 s1 hv => by
    cases hv
    exact ⟨i, rfl, q _ H1 s1 (.int _)⟩
theorem mk_pow {t u : TE} {i j : Int} (h1 : MkE K σ H0 t (.int i)) (h2 : MkE K σ H0 u (.int j)) (c : CPow i j) : MkE K σ H0 (tOp (rI CPow fun i j => .int (i ^ j.toNat)) t u) (.int (i ^ j.toNat)) := fun H Q s q =>
  h1 H _ s fun v H1 s1 hv => h2 H1 _ (s.trans s1) fun w H2 s2 hw => by
    cases hv
    cases hw
    exact ⟨i, j, rfl, rfl, c, q _ H2 (s1.trans s2) (.int _)⟩
theorem mk_ixT {t u : TE} {ds : List PyData} {k : Nat} {d : PyData} (h1 : MkE K σ H0 t (.tuple ds)) (h2 : MkE K σ H0 u (.int (k : Int))) (e : ds[k]? = some d) : MkE K σ H0 (tOp (rIxT K) t u) d := fun H Q s q =>
  h1 H _ s fun v H1 s1 hv => h2 H1 _ (s.trans s1) fun w H2 s2 hw => by
    have hv2 := s2.dp hv
    cases hw
    cases hv2 with
    | tup h3 h4 =>
      obtain ⟨x, ex, hx⟩ := dp_at h4 e
      exact ⟨_, _, _, x, rfl, rfl, h3, atI_nat ex, q _ H2 (s1.trans s2) hx⟩
theorem MkE.run {t : TE} {d : PyData} {Q : VK} (h : MkE K σ H0 t d) (q : ∀ v H', Same H0 H' → Dp K H' v d → Q v H') : t σ H0 Q := h H0 Q (Same.refl H0) q
/-! ### with new lists and empty dicts -/
def MkX (K : PySem.W.Frag) (A : Addr → Prop) (σ : L2.St) (H0 : Hp) (t : TE) (d : PyData) : Prop := ∀ (H : Hp) (Q : VK), Same H0 H → (∀ v H', Same H H' → Dx K A H' v d → Q v H') → t σ H Q
def MkXA (K : PySem.W.Frag) (A : Addr → Prop) (σ : L2.St) (H0 : Hp) (t : TA) (ds : List PyData) : Prop := ∀ (H : Hp) (Q : List V → Hp → Prop), Same H0 H → (∀ vs H', Same H H' → DxAll K A H' vs ds → Q vs H') → t σ H Q
theorem mx_of {t : TE} {d : PyData} (ht : tupD d = true) (h : MkE K σ H0 t d) : MkX K A σ H0 t d := fun H Q s q => h H Q s fun v H' s' hd => q v H' s' (Dx.of ht hd)
theorem mx_var {i : Nat} {v : V} {d : PyData} (h : σ[i]? = some (some v)) (hd : Dx K A H0 v d) : MkX K A σ H0 (tVar i) d := fun H Q s q => ⟨v, h, q _ H (Same.refl H) (hd.same s)⟩
theorem mxa_nil : MkXA K A σ H0 tNil [] := fun H Q _ q => q [] H (Same.refl H) .nil
theorem mxa_cons {t : TE} {ta : TA} {d : PyData} {ds : List PyData} (h : MkX K A σ H0 t d) (ha : MkXA K A σ H0 ta ds) : MkXA K A σ H0 (tCons t ta) (d :: ds) := fun H Q s q =>
  h H _ s fun v H1 s1 hv => ha H1 _ (s.trans s1) fun vs H2 s2 hvs => q (v :: vs) H2 (s1.trans s2) (.cons (hv.same s2) hvs)
theorem mx_lst {ta : TA} {ds : List PyData} (hA : ∀ H a, Same H0 H → H a = none → A a) (h : MkXA K A σ H0 ta ds) (hz : ds.length ≤ 1000 := by simp) : MkX K A σ H0 (tLst ta) (.list ds) := fun H Q s q =>
  h H _ s fun vs H1 s1 hvs => ⟨by rw [dxAll_len hvs]; exact Nat.le_of_lt (small1000 hz), fun p np => q (.ref p) _ (s1.trans (same_upd np)) (.lst (hA _ _ (s.trans s1) np) upd_same (hvs.same (same_upd np)))⟩
theorem mx_tup {ta : TA} {ds : List PyData} (h : MkXA K A σ H0 ta ds) (hz : ds.length ≤ 1000 := by simp) : MkX K A σ H0 (tTup ta) (.tuple ds) := fun H Q s q =>
  h H _ s fun vs H1 s1 hvs => ⟨by rw [dxAll_len hvs]; exact Nat.le_of_lt (small1000 hz), fun p np => q (.ref p) _ (s1.trans (same_upd np)) (.tup (stt upd_same) (hvs.same (same_upd np)))⟩
theorem MkX.run {t : TE} {d : PyData} {Q : VK} (h : MkX K A σ H0 t d) (q : ∀ v H', Same H0 H' → Dx K A H' v d → Q v H') : t σ H0 Q := h H0 Q (Same.refl H0) q
/-- a new list of such data -/
theorem runX_lst {ta : TA} {ds : List PyData} {Q : VK} (h : MkXA K A σ H0 ta ds) (q : ∀ p H' vs, H0 p = none → Same H0 H' → H' p = some (.lst vs) → DxAll K A H' vs ds → Q (.ref p) H') (hz : ds.length ≤ 1000 := by simp) : tLst ta σ H0 Q :=
  h H0 _ (Same.refl H0) fun vs H1 s1 hvs => ⟨by rw [dxAll_len hvs]; exact Nat.le_of_lt (small1000 hz), fun p np => q p _ vs (s1.free np) (s1.trans (same_upd np)) upd_same (hvs.same (same_upd np))⟩
/-- a new list of such data: its place is apart from what is in it -/
theorem runX_lst1 {ta : TA} {ds : List PyData} {Q : VK} (h : MkXA K A σ H0 ta ds) (q : ∀ p H1 vs, Same H0 H1 → H1 p = none → DxAll K A H1 vs ds → Q (.ref p) (upd H1 p (.lst vs))) (hz : ds.length ≤ 1000 := by simp) : tLst ta σ H0 Q :=
  h H0 _ (Same.refl H0) fun vs H1 s1 hvs => ⟨by rw [dxAll_len hvs]; exact Nat.le_of_lt (small1000 hz), fun p np => q p H1 vs s1 np hvs⟩
theorem dx_at {H : Hp} : ∀ {xs : List V} {ds : List PyData}, DxAll K A H xs ds → ∀ {i : Nat} {d : PyData}, ds[i]? = some d → ∃ v, xs[i]? = some v ∧ Dx K A H v d
  | _, _, .cons h _, 0, _, e => ⟨_, rfl, by cases e; exact h⟩
  | _, _, .cons _ t, i + 1, _, e => dx_at t (by simpa using e)
  | _, _, .nil, i, _, e => by simp at e
theorem dxAll_app {H : Hp} : ∀ {xs ys : List V} {ds es : List PyData}, DxAll K A H xs ds → DxAll K A H ys es → DxAll K A H (xs ++ ys) (ds ++ es)
  | _, _, _, _, .nil, k => k
  | _, _, _, _, .cons h t, k => .cons h (dxAll_app t k)
end
end HR
/-! x in y: y a list, a tuple, or a dict -/
namespace HO
open PySem PySem.Spec PyProof.Rows L2
section
variable {X : Cx}
def rInAny (K : PySem.W.Frag) : R2 := fun x y H Q => rIn K false x y H Q ∨ ∃ (a : Addr) (o : Option V), y = .ref a ∧ DGet H a x o ∧ Q (.bl o.isSome) H
theorem op_inAny (hu : X.A.units + 1 < cLine) : OpR X (compareOp .In) (rInAny X.K) := by
  intro pins s σ H x y v u Q I rx ry h
  rcases h with h | ⟨a, o, rfl, g, q⟩
  · exact op_in_seq pins s σ H x y v u Q I rx ry h
  · cases ry
    exact d_in hu I g rx fun s' I' => ⟨.bl _, H, I', rfl, q⟩
end
end HO
/-! ==, != and len of an instance whose class says how -/
namespace HC
open PySem
section
open Sem (wp)
open Builtin
variable {prog : Program} {w : World} {A : Around} {E : Value → Shared → Prop} {s : Shared} {K : PySem.W.Frag} {x C f : Addr} {ox : Obj} {od : Option Obj}
theorem len_ownK {h : Heap} {g : Array GenState} {d : Drawn} {t : Nat} {os : OsState} {Q : Value → Shared → Prop}
    (hcall : wpAny (model prog w) A.in1 (callSpecial? (.ref x) "__len__") (fun r s' => ∃ n u, r = some (.int n u) ∧ 0 ≤ n ∧ n < 2 ^ 63 ∧ Q (.int n s'.toks) { s' with toks := s'.toks + 1 }) E ⟨h, g, d, t, os⟩) :
    wpAny (model prog w) A (call (.builtin "len") [.ref x]) Q E ⟨h, g, d, t, os⟩ := by
  refine Calls.call_function_entry kind_len plain_len entry_len (args_len1 _) ?_
  unfold Builtin.«len»
  refine wpAny_bind (m := oneArg "len" _) (wpAny_pure ?_)
  refine wpAny_bind (m := callSpecial? (.ref x) (Str.ofString "__len__")) (wpAny_mono hcall (fun r s' hr => ?_) fun _ _ y => y)
  obtain ⟨n, u, rfl, h0, h1, hq⟩ := hr
  refine wpAny_bind (wpAny_holding (wpAny_pure ?_))
  refine wpAny_bind (wpAny_letGo ?_)
  show wpAny _ _ (if n < 0 then _ else _) _ _ _
  rw [if_neg (by omega)]
  show wpAny _ _ (if n ≥ 2 ^ 63 then _ else _) _ _ _
  rw [if_neg (by omega)]
  exact wpAny_bind (wpAny_mkInt (wpAny_pure ⟨_, rfl, hq⟩))
theorem ifBound_objNe {M : Model} {args : List Value} {Q : Option Value → Shared → Prop} (X : K.In s.heap) (I : PySem.W.InstAt s.heap x ox C od) (hs : PySem.W.findIn K (.ref C) "__ne__" = some (some (.builtin "object.__ne__")))
    (h : wpAny M A (call (.builtin "object.__ne__") (.ref x :: args)) (fun v => Q (some v)) E s) : wpAny M A (callSpecialIfBound? (.ref x) "__ne__" args) Q E s := by
  simp only [callSpecialIfBound?, bindSpecialIfBound?]
  refine wpAny_holding (wpAny_bind (wpAny_bind (wpAny_bind (I.type.here ((PySem.W.looks_findIn X hs).here ?_)))))
  refine wpAny_bind (wpAny_askSetting (wpAny_ite ?_))
  have fin : wpAny M A (call (.builtin "object.__ne__") ([.ref x] ++ args) >>= fun v => pure (some v)) Q E s := wpAny_bind (wpAny_mono h (fun v s' h' => wpAny_pure h') fun _ _ h' => h')
  split
  · exact wpAny_bind (wpAny_of_eq (F.cmp_object.ne.bind _) (wpAny_pure (by exact fin)))
  · exact wpAny_tryCatch (wpAny_bind (wpAny_of_eq (F.cmp_object.ne.bind _) (wpAny_pure (by exact fin))))
theorem objNe_entryK {b : Value} (hu : A.units < cLine) (X : K.In s.heap) (I : PySem.W.InstAt s.heap x ox C od) (hs : PySem.W.findIn K (.ref C) "__eq__" = some (some (.ref f))) (hf : PySem.W.isFn K (.ref f) = true) {Q : Fin → Shared → Prop}
    (hcall : wpAny (model prog w) A (call (.ref f) [.ref x, b]) (fun v s' => ∃ b, v = .bool b ∧ Q (.done (.ret (.bool (!b)))) s') E s) :
    wpAny (model prog w) A (Builtin.«object.__ne__» ⟨[.ref x, b], []⟩) Q E s := by
  unfold Builtin.«object.__ne__»
  repeat (first
    | with_reducible refine wpAny_cRoomFor hu ?_
    | (refine wpAny_bind (m := callSpecialIfBound? (.ref x) (Str.ofString "__eq__") [b])
        (PySem.W.ifBound_K X I hs hf (wpAny_mono hcall (fun r s' hr => by
          obtain ⟨b, rfl, hq⟩ := hr
          repeat (first | exact hq | exact wpAny_pure hq | exact wpAny_truthy_bool hq | (refine wpAny_bind (m := truthy (.bool _)) (wpAny_truthy_bool ?_)) | wp_step)) fun _ _ e => e)))
    | wp_step)
theorem ne_K {b tb : Value} {Q : Value → Shared → Prop} (hu : A.units + 1 < cLine) (X : K.In s.heap) (I : PySem.W.InstAt s.heap x ox C od) (hb : PySem.W.Looks (model prog w) s.heap (typeOf b) tb) (hn : PySem.W.notFirst K C tb = true)
    (hm : PySem.W.mroIn K C (.type "object") = some true) (hne : PySem.W.findIn K (.ref C) "__ne__" = some (some (.builtin "object.__ne__")))
    (hs : PySem.W.findIn K (.ref C) "__eq__" = some (some (.ref f))) (hf : PySem.W.isFn K (.ref f) = true)
    (h : wpAny (model prog w) A.in1 (call (.ref f) [.ref x, b]) (fun v s' => ∃ r, v = .bool r ∧ Q (.bool (!r)) s') E s) : wpAny (model prog w) A (richCompare .NotEq (.ref x) b) Q E s := by
  have one : wpAny (model prog w) A (tryCompare (.ref x) "__ne__" b) (fun r s' => ∃ v, r = some v ∧ Q v s') E s := by
    unfold tryCompare
    refine wpAny_bind (ifBound_objNe X I hne (wpAny_call (codeAny_call_builtin F.cmp_object.ne.plain F.cmpEntry_ne (PySem.W.check_slot F.cmpKind_ne F.cmpSplit_ne (I.type.andThen (PySem.W.looks_mroIn X hm)) (F.cmpArgs_ne _ _)
      (objNe_entryK (A := A.in1) (by show A.units + 1 < cLine; exact hu) X I hs hf (wpAny_mono h (fun v s' hv => ?_) fun _ _ e => e))))))
    obtain ⟨r, rfl, hq⟩ := hv
    first | exact ⟨r, rfl, wpAny_pure ⟨_, rfl, hq⟩⟩ | exact ⟨r, rfl, wpAny_pure (wpAny_pure ⟨_, rfl, hq⟩)⟩ | exact ⟨r, rfl, ⟨_, rfl, hq⟩⟩
  unfold richCompare
  simp only [oneThing_ref]
  refine wpAny_holding (wpAny_bind (wpAny_cRoomFor (by omega) ?_))
  refine wpAny_bind (I.type.here (wpAny_bind (hb.here ?_)))
  split
  · rename_i q
    have e : PySem.W.subIn K tb (.ref C) = some false := by
      rcases Bool.or_eq_true_iff.mp hn with e | e
      · rw [beq_iff_eq.mp e] at q; simp at q
      · exact beq_iff_eq.mp e
    refine wpAny_bind ((PySem.W.looks_subIn X e).here ?_)
    simp only [Bool.false_eq_true, if_false]
    refine wpAny_bind (wpAny_mono one (fun r s' z => ?_) fun _ _ e => e)
    obtain ⟨v, rfl, hq⟩ := z
    exact wpAny_pure hq
  · refine wpAny_bind (wpAny_pure ?_)
    simp only [Bool.false_eq_true, if_false]
    refine wpAny_bind (wpAny_mono one (fun r s' z => ?_) fun _ _ e => e)
    obtain ⟨v, rfl, hq⟩ := z
    exact wpAny_pure hq
theorem sub_tuple : PySem.W.subIn K (.type "tuple") (.ref C) = some false := by
  have e : fastBuiltinMro "tuple" = some [.type "tuple", .type "object"] := by decide +kernel
  show (fastBuiltinMro "tuple").map (·.contains (.ref C)) = some false
  rw [e]
  first
    | rfl
    | simp
end
section
open PySem.Spec PyProof.Rows L2
variable {X : Cx} {CX : CXT} {k : Nat} {f C : Addr} {fd : FuncData} {ps : List Str} {sp : Sp} {E : XK}
/-- len(x) of an instance whose class says how -/
def rLenO (C : Addr) (sp : Sp) (E : XK) : List V → Hp → VK → Prop := fun xs H Q => ∃ (a dx : Addr) (fs : List (Str × V)), xs = [.ref a] ∧ H a = some (.ins C dx fs) ∧ sp [.ref a] H (fun v H' => ∃ n : Nat, v = .int n ∧ n ≤ sizeLine ∧ Q v H') E
theorem call_lenO (hm : Meth X.K C "__len__" f) (F : FnOk X.prog X.w X.K X.mg X.base CX k f fd ps sp) (hr : Room (k + 1) X.A) (hb : Binds X.K fd ps []) (hx : Passes CX X E) : CallR X (.builtin "len") (rLenO C sp E) := by
  intro pins s σ H xs us Q I r h
  obtain ⟨a, dx, fs, rfl, e, q⟩ := h
  obtain ⟨u, rfl, ru⟩ := vals1 r
  obtain rfl : u = Value.ref a := ru
  refine len_ownK ?_
  obtain ⟨mA, O, _⟩ := ins_get I.hok e
  obtain ⟨od, J, _⟩ := O.look
  refine PySem.W.special_fn I.kIn J hm.at_ (beq_iff_eq.mp hm.fn) ?_
  have hl : ([Value.ref a] ++ []).length = ps.length := by
    have := F.len _ _ _ _ q
    exact this
  refine wpAny_call (codeAny_mono (F.run X.A.in1 X.stack s H ⟨[.ref a], []⟩ [.ref a] [.ref a] _ E hr.in1 I.env0.in1 (hb s [.ref a] I.kIn hl) (.cons rfl .nil) q) fun r s' hq => ?_)
  cases r with
  | error e => exact hx pins σ H s e s' I hq
  | ok fl =>
    cases fl with
    | ret u =>
      obtain ⟨v, H', I3, rv, n, ev, hn, q3⟩ := I.after hq
      subst ev
      obtain ⟨t, rfl⟩ := rv
      exact ⟨n, t, rfl, by omega, by have : sizeLine = 2 ^ 24 := rfl; omega, .int n, H', I3.tok _, ⟨_, rfl⟩, q3⟩
    | next => exact False.elim hq
    | brk => exact False.elim hq
    | cont => exact False.elim hq
/-- x == y, x != y of an instance whose class says how, the other one an instance of it or a tuple -/
def rCmpO (K : PySem.W.Frag) (C : Addr) (sp : Sp) (E : XK) (g : Bool → Bool) : R2 := fun x y H Q => ∃ (a dx b : Addr) (fs : List (Str × V)), x = .ref a ∧ H a = some (.ins C dx fs) ∧ y = .ref b ∧ ((∃ dy gs, H b = some (.ins C dy gs)) ∨ ∃ ys, SqT K H b ys) ∧
  sp [.ref a, .ref b] H (fun v H' => ∃ r : Bool, v = .bl r ∧ Q (.bl (g r)) H') E
theorem other_type {pins : List (Addr × Obj)} {σ : L2.St} {H : Hp} {s : Shared} {b : Addr} (I : Inv X pins σ H s) (h : (∃ dy gs, H b = some (.ins C dy gs)) ∨ ∃ ys, SqT X.K H b ys) : ∃ tb, PySem.W.Looks (model X.prog X.w) s.heap (typeOf (.ref b)) tb ∧ PySem.W.notFirst X.K C tb = true := by
  rcases h with ⟨dy, gs, h⟩ | ⟨ys, h⟩
  · obtain ⟨mB, J', _⟩ := ins_get I.hok h
    obtain ⟨od', J', _⟩ := J'.look
    exact ⟨_, J'.type, by simp [PySem.W.notFirst]⟩
  · obtain ⟨its, r, ⟨o, ho, hc, n, hd⟩, z⟩ := I.tuple h
    refine ⟨.type "tuple", (PySem.W.Looks.ld ho).andThen (by rw [hc]; exact .now), ?_⟩
    show (Value.type "tuple" == Value.ref C || PySem.W.subIn X.K (.type "tuple") (.ref C) == some false) = true
    rw [sub_tuple]
    simp
theorem op_eqO (hm : Meth X.K C "__eq__" f) (F : FnOk X.prog X.w X.K X.mg X.base CX k f fd ps sp) (hr : Room k X.A) (hb : Binds X.K fd ps []) (hx : Passes CX X E) : OpR X (compareOp .Eq) (rCmpO X.K C sp E id) := by
  intro pins s σ H x y v u Q I rx ry h
  obtain ⟨a, dx, b, fs, rfl, e, rfl, ho, q⟩ := h
  cases rx
  cases ry
  obtain ⟨mA, O, _⟩ := ins_get I.hok e
  obtain ⟨od, J, _⟩ := O.look
  obtain ⟨tb, l1, l2⟩ := other_type I ho
  obtain ⟨m, hF⟩ := I.fr
  show wpAny (model X.prog X.w) X.A (richCompare .Eq (.ref a) (.ref b)) (EP X pins σ Q) X.xe s
  refine PySem.W.cmp_K (op := .Eq) hr.units0 hF I.ok.mod.kin J l1 l2 hm.at_ hm.fn ?_
  have hl := F.len _ _ _ _ q
  refine wpAny_call (codeAny_mono (F.run X.A X.stack s H ⟨[.ref a, .ref b], []⟩ [.ref a, .ref b] [.ref a, .ref b] _ E hr I.env0 (by
    have := hb s [.ref a, .ref b] I.kIn (by simpa using hl)
    simpa using this) (.cons rfl (.cons rfl .nil)) q) fun r s' hq => ?_)
  cases r with
  | error e => exact hx pins σ H s e s' I hq
  | ok fl =>
    cases fl with
    | ret w =>
      obtain ⟨z, H', I', rz, t, ez, q3⟩ := I.after hq
      subst ez
      cases rz
      exact ⟨.bl t, H', I', rfl, q3⟩
    | next => exact False.elim hq
    | brk => exact False.elim hq
    | cont => exact False.elim hq
theorem op_neO (hm : Meth X.K C "__eq__" f) (ho : PySem.W.mroIn X.K C (.type "object") = some true) (hne : PySem.W.findIn X.K (.ref C) "__ne__" = some (some (.builtin "object.__ne__"))) (F : FnOk X.prog X.w X.K X.mg X.base CX k f fd ps sp) (hr : Room (k + 1) X.A) (hb : Binds X.K fd ps []) (hx : Passes CX X E) : OpR X (compareOp .NotEq) (rCmpO X.K C sp E not) := by
  intro pins s σ H x y v u Q I rx ry h
  obtain ⟨a, dx, b, fs, rfl, e, rfl, hy, q⟩ := h
  cases rx
  cases ry
  obtain ⟨mA, O, _⟩ := ins_get I.hok e
  obtain ⟨od, J, _⟩ := O.look
  obtain ⟨tb, l1, l2⟩ := other_type I hy
  show wpAny (model X.prog X.w) X.A (richCompare .NotEq (.ref a) (.ref b)) (EP X pins σ Q) X.xe s
  refine ne_K (by have := hr.units0; have := hr.in1.units0; exact this) I.kIn J l1 l2 ho hne hm.at_ hm.fn ?_
  have hl := F.len _ _ _ _ q
  refine wpAny_call (codeAny_mono (F.run X.A.in1 X.stack s H ⟨[.ref a, .ref b], []⟩ [.ref a, .ref b] [.ref a, .ref b] _ E hr.in1 I.env0.in1 (by
    have := hb s [.ref a, .ref b] I.kIn (by simpa using hl)
    simpa using this) (.cons rfl (.cons rfl .nil)) q) fun r s' hq => ?_)
  cases r with
  | error e => exact hx pins σ H s e s' I hq
  | ok fl =>
    cases fl with
    | ret w =>
      obtain ⟨z, H', I', rz, t, ez, q3⟩ := I.after hq
      subst ez
      cases rz
      exact ⟨t, rfl, .bl (!t), H', I', rfl, q3⟩
    | next => exact False.elim hq
    | brk => exact False.elim hq
    | cont => exact False.elim hq
/-- what the head tells of a class with its own == -/
structure OwnC (K : PySem.W.Frag) (C : Addr) : Prop where
  ob : PySem.W.mroIn K C (.type "object") = some true
  ne : PySem.W.findIn K (.ref C) "__ne__" = some (some (.builtin "object.__ne__"))
  ha : PySem.W.findIn K (.ref C) "__class__" = some (some (.builtin "object.__class__"))
  hn : PySem.W.specialIn K (.builtin "object.__class__") "__get__" = some (some (.builtin "getset_descriptor.__get__"))
  tk : PySem.W.takesIn K (.builtin "object.__class__") = some true
  tup : PySem.W.kitOne K (.type "tuple") (.ref C) = some false
def neB (K : PySem.W.Frag) (C : Addr) : Bool := decide (PySem.W.mroIn K C (.type "object") = some true) && (decide (PySem.W.findIn K (.ref C) "__ne__" = some (some (.builtin "object.__ne__"))) &&
  (decide (PySem.W.findIn K (.ref C) "__class__" = some (some (.builtin "object.__class__"))) && (decide (PySem.W.specialIn K (.builtin "object.__class__") "__get__" = some (some (.builtin "getset_descriptor.__get__"))) &&
  (decide (PySem.W.takesIn K (.builtin "object.__class__") = some true) && decide (PySem.W.kitOne K (.type "tuple") (.ref C) = some false)))))
theorem neB_ok {K : PySem.W.Frag} {C : Addr} (h : neB K C = true) : OwnC K C := by
  unfold neB at h
  simp only [Bool.and_eq_true, decide_eq_true_eq] at h
  obtain ⟨h1, h2, h3, h4, h5, h6⟩ := h
  exact ⟨h1, h2, h3, h4, h5, h6⟩
end
end HC
/-! == and != of tuples that hold data and dicts -/
namespace HF
open PySem PySem.SeqAt
section
open AutoSeq1 (wpAny_loadPart')
open MeetsSeq MeetsSeq2 MeetsSeq3 SeqRoads2
variable {prog : Program} {w : World}
/-- != of two tuples of one length, all alike -/
theorem tupNe_alike (l b : Addr) (xs ys : Array Value) (n n2 : Nat) (dd dd2 : Option Addr) (sl sl2 : Array (Option Value)) (hsz : xs.size = ys.size) :
    MeetsIn prog w (Builtin.«tuple.__ne__» ⟨[.ref l, .ref b], []⟩)
      (fun A R s => s.heap.get? l = some { cls := .type "tuple", dict := dd, data := .seq xs n, slots := sl } ∧ s.heap.get? b = some { cls := .type "tuple", dict := dd2, data := .seq ys n2, slots := sl2 } ∧
        (∀ j (h1 : j < xs.size) (h2 : j < ys.size), EqIn prog w A.in1 s xs[j] ys[j] true) ∧ R (.ok (.ret (.bool false))) s) :=
  .of_wp fun A R s h => by
    obtain ⟨hp, g, d, tk, os⟩ := s
    obtain ⟨hl, hb, he, h⟩ := h
    have f2 := AutoSeq1.sub_tuple_tuple
    have hZ : (xs.toList.zip ys.toList).length = xs.size := by simp [hsz]
    wp_walk using wpAny_loadPart' hl, wpAny_loadPart' hb, wpAny_forIn_list _ (fun rest b s' => b.1 = none ∧ s' = ⟨hp, g, d, tk, os⟩ ∧ ∃ i, rest = (xs.toList.zip ys.toList).drop i) _
    case turn =>
      rintro ⟨y, x⟩ rest b s' ⟨hb', rfl, i, hz⟩
      have hlt : i < (xs.toList.zip ys.toList).length := by
        rcases Nat.lt_or_ge i (xs.toList.zip ys.toList).length with h' | h'
        · exact h'
        · rw [List.drop_of_length_le h'] at hz; cases hz
      have h1 : i < xs.size := hZ ▸ hlt
      have h2 : i < ys.size := hsz ▸ h1
      rw [List.drop_eq_getElem_cons hlt] at hz
      injection hz with hyx hrest
      have hy : y = xs[i] := by have := congrArg Prod.fst hyx; simpa using this
      have hx : x = ys[i] := by have := congrArg Prod.snd hyx; simpa using this
      subst hy hx
      refine wpAny_bind (he i h1 h2 _ _ ?_)
      wp_walk
      exact ⟨rfl, rfl, i + 1, hrest⟩
    case fin =>
      rintro ⟨b1, b2⟩ s' ⟨hb', rfl, i, hz⟩
      simp only at hb'
      subst hb'
      wp_walk
      exact ⟨_, rfl, by simpa [Builtin.Tuple.tupleCompareSizes, bne, hsz] using h⟩
    case h =>
      exact ⟨rfl, rfl, 0, rfl⟩
theorem rcNe_alike {A : Around} {s : Shared} {E : Value → Shared → Prop} {l b : Addr} {xs ys : Array Value} {Q : Value → Shared → Prop} (hl : s.heap.IsTuple l xs) (hb : s.heap.IsTuple b ys) (hsz : xs.size = ys.size) (hu : A.units < cLine)
    (he : ∀ j (h1 : j < xs.size) (h2 : j < ys.size), EqIn prog w A.in1 s xs[j] ys[j] true) (h : Q (.bool false) s) : wpAny (model prog w) A (richCompare .NotEq (.ref l) (.ref b)) Q E s := by
  obtain ⟨⟨cls, dd, data, sl⟩, ho, hc, n, hd⟩ := id hl
  obtain ⟨⟨cls2, dd2, data2, sl2⟩, ho2, hc2, n2, hd2⟩ := id hb
  simp only at hc hd hc2 hd2
  subst hc hd hc2 hd2
  exact wpAny_richCompare_same_room (T := "tuple") (op := .NotEq) ⟨_, ho, rfl⟩ ⟨_, ho2, rfl⟩ PySem.F.slot_tuple_ne (call_meetsIn PySem.F.slot_tuple_ne ⟨_, ho, rfl⟩ PySem.F.entry_tuple_ne (PySem.F.args_tuple_ne_2 _ _) (tupNe_alike l b xs ys n n2 dd dd2 sl sl2 hsz)
    ⟨ho, ho2, he, show Value.bool false ≠ Value.notImplemented ∧ Q (.bool false) s from ⟨(fun x => nomatch x), h⟩⟩) hu
end
section
open PySem.Spec PyProof.Rows L2
variable {X : Cx}
theorem u70 {k : Nat} {A : Around} (r : Room k A) : A.units + 70 < cLine := by have := r.un; omega
def dictEq (ks ls : List (Key × V)) : Bool := ks.length == ls.length && ks.all fun p => match valV ls p.1 with
  | some y => eqV p.2 y
  | none => false
/-- data, or two dicts with flat values: alike or not -/
inductive CmpV (K : PySem.W.Frag) (H : Hp) : V → V → Bool → Prop
  | data {x y : V} {d e : PyData} : Dp K H x d → Dp K H y e → SeqAt.shaped d = true → SeqAt.shaped e = true → CmpV K H x y (PyData.eqv d e)
  | dict {a b : Addr} {ks ls : List (Key × V)} : a ≠ b → H a = some (.dK ks) → H b = some (.dK ls) → (∀ p ∈ ks, flatV p.2 = true) → (∀ p ∈ ls, flatV p.2 = true) → CmpV K H (.ref a) (.ref b) (dictEq ks ls)
theorem hits_any {prog : Program} {w : World} {A : Around} {s : Shared} {ls : List (Key × V)} {vb : List (Key × Value)} (rb : KV ls vb) (fl : ∀ p ∈ ls, flatV p.2 = true) : ∀ {ks : List (Key × V)} {va : List (Key × Value)}, KV ks va → (∀ p ∈ ks, flatV p.2 = true) →
    PySem.W.KeqHitsIn prog w A s vb va (ks.all fun p => match valV ls p.1 with
      | some y => eqV p.2 y
      | none => false) := by
  intro ks va ra
  unfold KV at ra
  induction ra with
  | nil => intro _; exact .nil
  | @cons p q ps qs h t ih =>
    intro hp
    obtain ⟨h1, h2⟩ := h
    obtain ⟨k, v⟩ := q
    have h1 : p.1 = k := h1
    have h2 : RelV p.2 v := h2
    have hv := rb.val k
    rw [List.all_cons, h1]
    cases e : valV ls k with
    | none =>
      rw [e] at hv
      have : valueAt vb k = none := by
        cases e2 : valueAt vb k with
        | none => rfl
        | some y => rw [e2] at hv; exact hv.elim
      rw [Bool.false_and]
      exact .miss this
    | some y =>
      rw [e] at hv
      obtain ⟨u, hu, ru⟩ := RelO.some_of hv
      have fy : flatV y = true := by
        obtain ⟨p', hp', e2⟩ := Option.map_eq_some_iff.mp e
        exact e2 ▸ fl p' (List.mem_of_find?_eq_some hp')
      exact .hit hu ((eqAt_V h2 ru (hp p (List.mem_cons_self ..)) fy).inModel prog w) (ih fun p' hm => hp p' (List.mem_cons_of_mem _ hm))
theorem CmpV.eqIn {pins : List (Addr × Obj)} {σ : L2.St} {H : Hp} {s : Shared} (I : Inv X pins σ H s) {x y : V} {u v : Value} {b : Bool} (h : CmpV X.K H x y b) (rx : RelV x u) (ry : RelV y v) {A : Around} (hu : A.units + 66 < cLine) : EqIn X.prog X.w A s u v b := by
  cases h with
  | data hd he sd se =>
    obtain ⟨as, r1⟩ := Dp.reads I _ _ _ hd rx
    obtain ⟨bs, r2⟩ := Dp.reads I _ _ _ he ry
    exact (SeqAt.EqAt.of_in1 (PySem.W.keq_at r1 r2 sd se (by show A.units + 1 + 64 < cLine; omega))).inModel _ _
  | @dict a b ks ls hne ha hb fk fl =>
    obtain rfl : u = Value.ref a := rx
    obtain rfl : v = Value.ref b := ry
    obtain ⟨_, ya, va, ra, da⟩ := (show ObjOk X.prog X.w H s.heap a (.dK ks) from I.hok a _ ha)
    obtain ⟨_, yb, vb, rb, db⟩ := (show ObjOk X.prog X.w H s.heap b (.dK ls) from I.hok b _ hb)
    refine SeqAt.EqIn.of_refs hne fun E Q hq => ?_
    have e : (va.length == vb.length) = (ks.length == ls.length) := by rw [ra.length, rb.length]
    exact PySem.W.keq_eqIn (knd := mixKind X.prog X.w) ya yb da db (by omega) (fun _ => hits_any rb fl ra fk) (by rw [e]; exact hq)
/-- == of two tuples of one length, item by item -/
def rEqM (K : PySem.W.Frag) : R2 := fun x y H Q => ∃ (a b : Addr) (xs ys : List V) (es : List Bool), x = .ref a ∧ y = .ref b ∧ SqT K H a xs ∧ SqT K H b ys ∧ xs.length = es.length ∧ ys.length = es.length ∧
  (∀ (j : Nat) x y e, xs[j]? = some x → ys[j]? = some y → es[j]? = some e → CmpV K H x y e) ∧ Q (.bl (es.all id)) H
theorem all_range (es : List Bool) : ((List.range es.length).all fun j => es.getD j true) = es.all id := by
  induction es with
  | nil => rfl
  | cons e es ih =>
    rw [List.length_cons, List.range_succ_eq_map, List.all_cons, List.all_map, List.all_cons, ← ih]
    rfl
theorem op_eqM (hu : X.A.units + 70 < cLine) : OpR X (compareOp .Eq) (rEqM X.K) := by
  intro pins s σ H x y v u Q I rx ry h
  obtain ⟨a, b, xs, ys, es, rfl, rfl, ha, hb, l1, l2, hc, q⟩ := h
  obtain rfl : v = Value.ref a := rx
  obtain rfl : u = Value.ref b := ry
  obtain ⟨its, r, e, z⟩ := I.tuple ha
  obtain ⟨its2, r2, e2, z2⟩ := I.tuple hb
  have n1 : its.toArray.size = es.length := by rw [List.size_toArray, ← r.length]; exact l1
  have n2 : its2.toArray.size = es.length := by rw [List.size_toArray, ← r2.length]; exact l2
  show wpAny (model X.prog X.w) X.A (richCompare .Eq (.ref a) (.ref b)) (EP X pins σ Q) X.xe s
  refine SeqAt.rcIn_tuples (e := fun j => es.getD j true) e e2 (by omega) (fun j h1 h2 => ?_) ?_
  · have k1 : j < xs.length := by omega
    have k2 : j < ys.length := by omega
    have k3 : j < es.length := by omega
    obtain ⟨u1, hu1, ru1⟩ := r.get (List.getElem?_eq_getElem k1)
    obtain ⟨v1, hv1, rv1⟩ := r2.get (List.getElem?_eq_getElem k2)
    have g1 : its.toArray[j] = u1 := by
      have h1' : j < its.length := by simpa using h1
      rw [List.getElem?_eq_getElem h1'] at hu1
      simpa using Option.some.inj hu1
    have g2 : its2.toArray[j] = v1 := by
      have h2' : j < its2.length := by simpa using h2
      rw [List.getElem?_eq_getElem h2'] at hv1
      simpa using Option.some.inj hv1
    rw [g1, g2]
    have e3 : es.getD j true = es[j] := by rw [List.getD_eq_getElem?_getD, List.getElem?_eq_getElem k3]; rfl
    show EqIn _ _ _ _ _ _ (es.getD j true)
    rw [e3]
    exact (hc j _ _ _ (List.getElem?_eq_getElem k1) (List.getElem?_eq_getElem k2) (List.getElem?_eq_getElem k3)).eqIn I ru1 rv1 (by show X.A.units + 1 + 66 < cLine; omega)
  · rw [n1, n2, Nat.min_self, all_range, beq_self_eq_true, Bool.and_true]
    exact ⟨.bl _, H, I, rfl, q⟩
/-- != of two tuples that are alike -/
def rNeM (K : PySem.W.Frag) : R2 := fun x y H Q => ∃ (a b : Addr) (xs ys : List V), x = .ref a ∧ y = .ref b ∧ SqT K H a xs ∧ SqT K H b ys ∧ xs.length = ys.length ∧
  (∀ (j : Nat) x y, xs[j]? = some x → ys[j]? = some y → CmpV K H x y true) ∧ Q (.bl false) H
theorem op_neM (hu : X.A.units + 70 < cLine) : OpR X (compareOp .NotEq) (rNeM X.K) := by
  intro pins s σ H x y v u Q I rx ry h
  obtain ⟨a, b, xs, ys, rfl, rfl, ha, hb, l1, hc, q⟩ := h
  obtain rfl : v = Value.ref a := rx
  obtain rfl : u = Value.ref b := ry
  obtain ⟨its, r, e, z⟩ := I.tuple ha
  obtain ⟨its2, r2, e2, z2⟩ := I.tuple hb
  have n1 : its.toArray.size = xs.length := by rw [List.size_toArray, ← r.length]
  have n2 : its2.toArray.size = ys.length := by rw [List.size_toArray, ← r2.length]
  show wpAny (model X.prog X.w) X.A (richCompare .NotEq (.ref a) (.ref b)) (EP X pins σ Q) X.xe s
  refine rcNe_alike e e2 (by omega) (by omega) (fun j h1 h2 => ?_) ⟨.bl _, H, I, rfl, q⟩
  have k1 : j < xs.length := by omega
  have k2 : j < ys.length := by omega
  obtain ⟨u1, hu1, ru1⟩ := r.get (List.getElem?_eq_getElem k1)
  obtain ⟨v1, hv1, rv1⟩ := r2.get (List.getElem?_eq_getElem k2)
  have g1 : its.toArray[j] = u1 := by
    have h1' : j < its.length := by simpa using h1
    rw [List.getElem?_eq_getElem h1'] at hu1
    simpa using Option.some.inj hu1
  have g2 : its2.toArray[j] = v1 := by
    have h2' : j < its2.length := by simpa using h2
    rw [List.getElem?_eq_getElem h2'] at hv1
    simpa using Option.some.inj hv1
  rw [g1, g2]
  exact (hc j _ _ (List.getElem?_eq_getElem k1) (List.getElem?_eq_getElem k2)).eqIn I ru1 rv1 (by show X.A.units + 1 + 66 < cLine; omega)
end
end HF
/-! Own rules over the hand layer: l.count(x) of data; l[i] op= e. -/
namespace HAB
open PySem PySem.Spec PyProof.Rows L2
section
variable {X : Cx}
def rCountD (K : PySem.W.Frag) : V → List V → Hp → VK → Prop := fun x xs H Q => ∃ (a : Addr) (y : V) (d : PyData) (ds : List PyData), x = V.ref a ∧ xs = [y] ∧ Dp K H (V.ref a) (.list ds) ∧ Dp K H y d ∧
  SeqAt.shaped (.list ds) = true ∧ SeqAt.shaped d = true ∧ Q (.int (ds.countP (fun z => PyData.eqv z d) : Nat)) H
theorem mt_countD (hu : X.A.units + 65 < cLine) : MtR X "list.count" (rCountD X.K) := by
  intro pins s σ H x xs v us Q I rx rxs h
  obtain ⟨a, y, d, ds, rfl, rfl, hl, hy, sl, sd, q⟩ := h
  cases rx
  cases rxs with
  | cons ry rt =>
    rename_i uy ut
    cases rt
    obtain ⟨bs, r1⟩ := Dp.reads I d y uy hy ry
    have hxs : PyData.canLayAll0 ds = true := SeqAt.canLay_of_shaped sl
    have hroom : X.A.units + 1 + min (PyData.depthAll ds) d.depth < cLine := room_in_shaped sd hu
    cases hl with
    | lst hs ha =>
      obtain ⟨its, rv, ⟨⟨cls, dd, data, sls⟩, n, ho, hc, hdn, hdt⟩, hlen⟩ := I.list hs
      simp only at hc hdt
      subst hc hdt
      obtain ⟨as, h4⟩ := Dp.readsAll I ds _ its ha rv
      have hmap : its.map (SeqAt.readOf s.heap) = ds := SeqAt.readsAll_map ds its as hxs h4
      refine call_meets PySem.F.slot_list_count ⟨_, ho, rfl⟩ PySem.F.entry_list_count (PySem.F.args_list_count_2 _ _)
        (SeqAt.list_countAt a its.toArray n dd sls uy (fun u => PyData.eqv (SeqAt.readOf s.heap u) d)) ⟨ho, SeqAt.items_eqAt (vs := its.toArray) (show ReadsAll s.heap its.toArray.toList ds as from h4) r1 hxs (SeqAt.canLay_of_shaped sd) hroom, ?_⟩
      have ec : its.toArray.toList.countP (fun u => PyData.eqv (SeqAt.readOf s.heap u) d) = ds.countP (fun z => PyData.eqv z d) := by
        rw [← hmap, List.countP_map]
        rfl
      refine ⟨.int (ds.countP (fun z => PyData.eqv z d) : Nat), H, I.tok _, ⟨s.toks, ?_⟩, q⟩
      rw [ec]
/-- l[i], by values, i not below 0 -/
def rGetL (K : PySem.W.Frag) : V → V → Hp → VK → Prop := fun x y H Q => ∃ (p : Addr) (xs : List V) (i : Nat) (v : V), x = .ref p ∧ y = .int (i : Int) ∧ SqL K H p xs ∧ xs[i]? = some v ∧ Q v H
theorem get_list : PGet X (rGetL X.K) := by
  intro pins s σ H x y v u Q I rx ry h
  obtain ⟨p, xs, i, z, rfl, rfl, hq, he, q⟩ := h
  cases rx
  obtain ⟨t, rfl⟩ := ry
  obtain ⟨its, r, pl, hz⟩ := I.list hq
  obtain ⟨w, ew, rw'⟩ := r.get he
  have hl := r.length
  have hn := line63
  have hi : i < its.length := (List.getElem?_eq_some_iff.mp ew).1
  have fin : EP X pins σ Q w s := ⟨z, H, I, rw', q⟩
  exact wpAny_getItem_list pl.isList (by omega) (by omega) (by rw [Int.toNat_natCast]; simpa using ew) fin
end
section
variable {X : Cx} {K : PySem.W.Frag} {o e : Expr} {es : List Expr} {to : TE} {t : TA} {name : Str} {apos cpos : Pos} {T id : String} {r : V → List V → Hp → VK → Prop}
/-- .. within a comprehension: the kit's K is named -/
theorem pe_bmK (hK : X.K = K) (pa : PlainAttrs T) (slot : Slot T name id) (hty : typeOf (.builtin id) = pure (.type "method_descriptor")) (hm : MtR X id r) (ho : PE X o to) (ha : PA X (e :: es) t)
    (hbase : attributeBase o name X.env (eval o X.env) = eval o X.env := by rfl)
    (hfew : ((backTo cpos (starEach (e :: es) X.env)).all (fun x => !x.1) && (backToKw cpos (keywordEach [] X.env)).all (fun x => x.1.isSome)
      && decide ((e :: es).length + ([] : List Keyword).length + (if ([] : List Keyword).isEmpty then 0 else 1) < 30)) = true := by rfl)
    (hline : (apos.endLine == cpos.line) = true := by rfl) (hs : starEach (e :: es) X.env = (false, eval e X.env) :: starEach es X.env := by rfl) (hplain : (backTo cpos (starEach es X.env)).any (·.1) = false := by rfl) :
    PE X (.Call (.Attribute o name apos) (e :: es) [] cpos) (tBM K T r to t) := hK ▸ pe_bm pa slot hty hm ho ha hbase hfew hline hs hplain
end
end HAB
/-! Own rules over the hand layer: sorted of a tuple of data; set(a tuple of texts) == {a text}. -/
namespace HAC
open PySem PySem.Spec PyProof.Rows L2 HX
section
variable {prog : Program} {w : World} {A : Around} {E : Value → Shared → Prop} {s : Shared}
theorem collect_tup {l : Addr} {vs : List Value} {Q : List Value → Shared → Prop} (hl : IsTup s.heap l vs.toArray)
    (h : Q vs { s with heap := (s.heap.push (seqObj "list" #[] 0)).update s.heap.objs.size (Obj.mapSeq (· ++ vs.toArray)) }) (hsz : vs.length ≤ sizeLine) :
    wpAny (model prog w) A (collect (.ref l)) Q E s := by
  obtain ⟨o, ho, hc, n, hd⟩ := id hl
  unfold collect
  refine wpAny_bind (wpAny_runValue (codeAny_builtin entry_proto_collect' ?_))
  show wpAny _ _ (do again (.builtin "list.__iadd__" ⟨[← newList [], .ref l], []⟩)) _ _ s
  refine wpAny_bind (wpAny_newList (wpAny_pure ⟨Code.quiet_builtin _ (by decide +kernel), codeAny_builtin entry_list_iadd' ?_⟩))
  show wpAny _ _ (Builtin.List.listExtendWith (.ref s.heap.objs.size) (.ref l) (.ref s.heap.objs.size)) _ _ { s with heap := s.heap.push (seqObj "list" #[] 0) }
  unfold Builtin.List.listExtendWith
  have ho' : (s.heap.push (seqObj "list" #[] 0)).get? l = some o := Heap.get?_push_of_some _ ho
  refine wpAny_bind (wpAny_typeOf (T := "tuple") ⟨o, ho', hc⟩ ?_)
  have ht : (Value.type "tuple" == Value.type "tuple") = true := by rfl
  rw [if_pos (by rw [ht]; simp)]
  refine wpAny_bind (listItems_at ho' hd ?_)
  refine wpAny_bind (listItems_at (xs := #[]) (n := 0) (Heap.get?_push_size _ rfl) rfl ?_)
  rw [if_neg (by simp)]
  refine wpAny_bind (listUpdate_at (xs := #[]) (n := 0) (Heap.get?_push_size _ rfl) rfl ?_ (Nat.zero_le _) (by show (#[] ++ vs.toArray).size ≤ sizeLine + 1; simp only [Array.size_append, List.size_toArray, List.length_nil]; omega))
  refine wpAny_pure ?_
  show wpAny (model prog w) A (do
      let o ← load s.heap.objs.size
      match o.data with
      | .seq xs _ => pure xs.toList
      | _ => unsupported "internal:collect") Q E { s with heap := (s.heap.push (seqObj "list" #[] 0)).update s.heap.objs.size (Obj.mapSeq (· ++ vs.toArray)) }
  refine wpAny_bind (wpAny_load (get?_update_seq (Heap.get?_push_size _ rfl) _) ?_)
  show wpAny _ _ (pure ((#[] : Array Value) ++ vs.toArray).toList) Q E _
  rw [show ((#[] : Array Value) ++ vs.toArray).toList = vs by simp]
  exact wpAny_pure h
/-- sorted(t), t a tuple: a new list -/
theorem sortedT_of_sort {l : Addr} {vs : List Value} {Q : Value → Shared → Prop} (hl : IsTup s.heap l vs.toArray) (hL : vs.length ≤ sizeLine)
    (body : ∀ E' : Value → Shared → Prop, wpAny (model prog w) A.in1.in1 (Builtin.«list.sort» ⟨[.ref (s.heap.objs.size + 1)], []⟩) (fun f s' => f = .done (.ret .none) ∧ Q (.ref (s.heap.objs.size + 1)) s') E' { s with heap := PySem.W.copyHeap s.heap vs }) :
    wpAny (model prog w) A (call (.builtin "sorted") [.ref l] []) Q E s := by
  refine PySem.Calls.call_function_entry kind_sorted plain_sorted entry_sorted (args_sorted1 _) ?_
  unfold Builtin.«sorted»
  refine wpAny_bind (m := checkCount "sorted" 1 1 _) (wpAny_pure ?_)
  refine wpAny_bind (collect_tup hl ?_ hL)
  refine wpAny_bind (wpAny_newList ?_ hL)
  have hsz : ((s.heap.push (seqObj "list" #[] 0)).update s.heap.objs.size (Obj.mapSeq (· ++ vs.toArray))).objs.size = s.heap.objs.size + 1 := by
    rw [Heap.size_update, size_push']
  show wpAny _ _ _ _ _ { s with heap := PySem.W.copyHeap s.heap vs }
  rw [hsz]
  refine wpAny_bind (wpAny_holding (wpAny_call_entry slot_list_sort ⟨_, PySem.W.copyHeap_at s.heap vs, rfl⟩ entry_list_sort ?body (args_list_sort _)))
  case body =>
    show wpAny (model prog w) A.in1.in1 (Builtin.«list.sort» ⟨[.ref (s.heap.objs.size + 1)], []⟩) _ _ _
    refine wpAny_mono (body _) (fun f s' hf => ?_) fun _ _ e => e
    obtain ⟨rfl, hq⟩ := hf
    exact ⟨_, rfl, wpAny_pure ⟨_, rfl, hq⟩⟩
open PySem.W in
theorem sortedT_data {β : Type} {vs : List Value} {bs : List β} {enc : β → PyData} {R : Value → β → Prop} {l : Addr} {Q : Value → Shared → Prop} (hl : IsTup s.heap l vs.toArray) (e : EachIs R vs bs) (er : EachIs (fun v b => ∃ as, Reads s.heap v (enc b) as) vs bs) (hal : AllAlike (bs.map enc)) (hk : Sortable (bs.map enc)) (hL : bs.length ≤ sizeLine)
    (hu : ∀ b, b ∈ bs → A.units + 2 + (enc b).depth < cLine) (h : ∀ out, out.length = bs.length → EachIs R out (bs.mergeSort (dataLe false enc)) → Q (.ref (s.heap.objs.size + 1)) { s with heap := sortedAll s.heap vs (List.toArray out) }) :
    wpAny (model prog w) A (call (.builtin "sorted") [.ref l]) Q E s := by
  have er' : EachIs (fun v b => ∃ as, Reads (sortingHeap (copyHeap s.heap vs) (s.heap.objs.size + 1) vs) v (enc b) as) vs bs := er.mono fun _ _ ⟨as, r⟩ => ⟨as, PyProof.Rows.Reads.keeps (fun _ _ => sorting_copy_old) r⟩
  have hLv : vs.length ≤ sizeLine := by rw [e.length]; exact hL
  exact sortedT_of_sort hl hLv fun _ => list_sort_vals (s := { s with heap := copyHeap s.heap vs }) (copyHeap_at s.heap vs) (SortsAt.data (s := { s with heap := sortingHeap (copyHeap s.heap vs) (s.heap.objs.size + 1) vs }) (each_map (R := fun v d => ∃ as, Reads (sortingHeap (copyHeap s.heap vs) (s.heap.objs.size + 1) vs) v d as) enc er') hal hk (bound_map hu)) hLv
    ⟨rfl, h _ (by rw [sortVals_length false rfl]; exact e.length) (sortVals_data false e er' hal)⟩
end
section
variable {X : Cx}
def rSortDT (K : PySem.W.Frag) : List V → Hp → VK → Prop := fun vs H Q => ∃ (a : Addr) (xs : List V) (ds : List PyData), vs = [V.ref a] ∧ SqT K H a xs ∧ DpAll K H xs ds ∧ PySem.W.AllAlike ds ∧ PySem.W.Sortable ds ∧ (∀ d ∈ ds, d.depth ≤ 60) ∧
  ∀ p, H p = none → Q (.ref p) (upd H p (.lst (sortD xs ds)))
theorem cr_sortDT (hu : X.A.units + 64 < cLine) : CallR X (.builtin "sorted") (rSortDT X.K) := by
  intro pins s σ H vs us Q I r h
  obtain ⟨a, xs, ds, rfl, hs, hd, hal, hk, hdep, q⟩ := h
  obtain ⟨its, rv, hl, hz⟩ := I.tuple hs
  rw [Vals.ref1 r]
  have el := dpAll_len hd
  have ez : (xs.zip ds).length = xs.length := by rw [List.length_zip, el, Nat.min_self]
  have e2 : (xs.zip ds).map (fun b : V × PyData => b.2) = ds := zip_snd el
  refine sortedT_data (enc := fun b : V × PyData => b.2) hl (each_of_vals rv el) (reads_each I rv hd) (by rw [e2]; exact hal) (by rw [e2]; exact hk) (by rw [ez]; exact hz) (fun b hb => ?_) fun out ho eo => ?_
  · have hb2 : b.2 ∈ ds := by rw [← e2]; exact List.mem_map.mpr ⟨b, hb, rfl⟩
    have := hdep _ hb2
    omega
  · obtain ⟨c, he⟩ := PyProof.Rows.sortedAll_at s.heap its out.toArray
    have hlen : (sortD xs ds).length ≤ sizeLine := by rw [(sortD_perm el).length_eq]; exact hz
    exact ⟨.ref _, upd H (s.heap.objs.size + 1) (.lst (sortD xs ds)), I.laid (t' := s.toks) (fun _ _ => PyProof.Rows.sortedAll_old) (Nat.le_succ _) ⟨hlen, out, c, vals_of_each eo, he⟩, rfl, q _ (I.hok.fresh (Nat.le_succ _))⟩
end
section
variable {prog : Program} {w : World} {A : Around} {E : Value → Shared → Prop} {s : Shared}
theorem entry_set_eq : entryFor table "set.__eq__" = some Builtin.«frozenset.__eq__» :=
  entryFor_alias (id' := "frozenset.__eq__") (by kernel_rfl) rfl (by decide +kernel) (by kernel_rfl)
theorem rc_set1 {a b : Addr} {S : Str → Bool} {n : Nat} {z : Str} {Q : Value → Shared → Prop} (ha : s.heap.SetOf (strKind prog w) a S n) (hb : s.heap.SetOf (strKind prog w) b (fun k => decide (k = z)) 1) (hu : A.units < cLine) (h : Q (.bool (decide (n = 1) && S z)) s) :
    wpAny (model prog w) A (richCompare .Eq (.ref a) (.ref b)) Q E s := by
  have hTa := ha.typeIs
  have hTb := hb.typeIs
  refine wpAny_richCompare_same_room (op := .Eq) hTa hTb PySem.F.slot_set_eq (wpAny_call_entry PySem.F.slot_set_eq hTa entry_set_eq ?_ (PySem.F.args_set_eq_2 _ _)) hu
  obtain ⟨oa, ea, epa, ta, hoa, hexa, hda, hela, hmema, hba, hfa, hna⟩ := id ha
  obtain ⟨ob, eb, epb, tb, hob, hexb, hdb, helb, hmemb, hbb, hfb, hnb⟩ := id hb
  show wpAny _ _ (Builtin.Frozenset.slot1 "__eq__" ⟨[.ref a, .ref b], []⟩ >>= _) _ _ s
  refine wpAny_bind ?_
  unfold Builtin.Frozenset.slot1 slotArgs
  simp only [List.isEmpty_nil, Bool.not_true, Bool.false_eq_true, ↓reduceIte, bind_assoc, List.length_cons, List.length_nil, bne_self_eq_false]
  refine wpAny_bind (wpAny_pure ?_)
  dsimp only
  refine wpAny_pure ?_
  dsimp only
  refine wpAny_bind ?_
  unfold Builtin.Frozenset.isAnySet
  show wpAny _ _ (isInstance (Value.ref b) (Value.type "set") >>= _) _ _ _
  refine wpAny_bind (wpAny_isInstance hTb PySem.F.sub_set_set (wpAny_pure ?_))
  simp only [Bool.not_true, Bool.false_eq_true, ↓reduceIte]
  unfold Builtin.Frozenset.addrOf Builtin.Frozenset.sizeOf
  refine wpAny_bind (wpAny_pure ?_)
  refine wpAny_bind (wpAny_pure ?_)
  refine wpAny_bind (wpAny_bind (wpAny_setEntries_of hoa hda hfa (wpAny_pure ?_)))
  refine wpAny_bind (wpAny_bind (wpAny_setEntries_of hob hdb hfb (wpAny_pure ?_)))
  rw [hna, hnb]
  by_cases h1 : n = 1
  · subst h1
    rw [decide_eq_true rfl, Bool.true_and] at h
    simp only [bne_self_eq_false, Bool.false_eq_true, ↓reduceIte]
    refine wpAny_bind ?_
    refine wpAny_bind ?_
    show wpAny _ _ (isInstance (Value.ref a) (Value.type "frozenset") >>= _) _ _ _
    refine wpAny_bind (wpAny_isInstance hTa PySem.F.sub_set_frozenset (wpAny_pure ?_))
    simp only [Bool.false_eq_true, ↓reduceIte]
    unfold Builtin.Frozenset.subsetOf Builtin.Frozenset.sizeOf
    refine wpAny_bind (wpAny_bind (wpAny_setEntries_of hoa hda hfa (wpAny_pure ?_)))
    refine wpAny_bind (wpAny_bind (wpAny_setEntries_of hob hdb hfb (wpAny_pure ?_)))
    rw [hna, hnb]
    simp only [gt_iff_lt, Nat.lt_irrefl, ↓reduceIte]
    refine wpAny_bind (wpAny_setEpoch_of hoa hda hfa ?_)
    obtain ⟨e0, rfl⟩ : ∃ e0, ea = #[e0] := Array.size_eq_one_iff.mp hna
    obtain ⟨f0, rfl⟩ : ∃ f0, eb = #[f0] := Array.size_eq_one_iff.mp hnb
    obtain ⟨⟨k0, hk0, hh0⟩, hs0⟩ := hela e0 (by simp)
    obtain ⟨⟨k1, hk1, hh1⟩, hs1⟩ := helb f0 (by simp)
    have ek1 : k1 = z := by
      have := (hmemb k1).mpr ⟨f0, by simp, hk1⟩
      exact of_decide_eq_true this
    have eS : S z = decide (k0 = z) := by
      by_cases e : k0 = z
      · rw [decide_eq_true e, ← e]
        exact (hmema k0).mpr ⟨e0, by simp, hk0⟩
      · rw [decide_eq_false e, ← Bool.not_eq_true, hmema]
        rintro ⟨e', he', hz⟩
        have he' : e' = e0 := by simpa using he'
        rw [he'] at hz
        exact e ((strKind prog w).inj _ _ _ hk0 hz)
    rw [eS] at h
    obtain ⟨h0, x0⟩ := e0
    obtain ⟨h2, x2⟩ := f0
    have hk0 : (strKind prog w).is k0 x0 = true := hk0
    have hk1 : (strKind prog w).is k1 x2 = true := hk1
    have hs0 : x0.scannable = true := hs0
    have hh0 : h0 = (strKind prog w).hash k0 := hh0
    obtain ⟨y0, t0, rfl⟩ : ∃ y t, x0 = Value.str y t := by
      cases x0 with
      | str y t => exact ⟨y, t, rfl⟩
      | _ => cases hk0
    obtain ⟨y1, t1, rfl⟩ : ∃ y t, x2 = Value.str y t := by
      cases x2 with
      | str y t => exact ⟨y, t, rfl⟩
      | _ => cases hk1
    unfold Builtin.Frozenset.walkUnseen
    refine wpAny_bind ?_
    refine wpAny_bind (wpAny_setEntries_of hoa hda hfa ?_)
    refine wpAny_bind (wpAny_setEntries_of hob hdb hfb ?_)
    simp only [List.cons_append, List.nil_append, List.forIn_cons, List.forIn_nil, Builtin.Frozenset.quietEq, pure_bind, Bool.not_true, Bool.false_eq_true, ↓reduceIte]
    refine wpAny_pure ?_
    simp only [List.forIn_cons, List.forIn_nil]
    have hh0 : h0 = (strKind prog w).hash k0 := hh0
    rw [hh0]
    refine wpAny_bind (wpAny_bind (wpAny_bind (wpAny_holding (wpAny_setFind_of hk0 hs0 hb fun r hr => ?_))))
    cases r with
    | none =>
      have e : decide (k0 = z) = false := by rw [← hr]; rfl
      rw [e] at h
      simp only [Option.isNone_none, ↓reduceIte]
      refine wpAny_pure ?_
      refine wpAny_pure ?_
      refine wpAny_pure ?_
      exact wpAny_pure ⟨_, rfl, (fun x => nomatch x), h⟩
    | some i =>
      have e : decide (k0 = z) = true := by rw [← hr]; rfl
      rw [e] at h
      simp only [Option.isNone_some, Bool.false_eq_true, ↓reduceIte]
      unfold Builtin.Frozenset.unchanged
      refine wpAny_bind (wpAny_bind (wpAny_setEpoch_of hoa hda hfa ?_))
      simp only [bne_self_eq_false, Bool.false_eq_true, ↓reduceIte]
      refine wpAny_pure ?_
      refine wpAny_pure ?_
      refine wpAny_pure ?_
      refine wpAny_pure ?_
      exact wpAny_pure ⟨_, rfl, (fun x => nomatch x), h⟩
  · rw [decide_eq_false h1, Bool.false_and] at h
    have e : (n != 1) = true := by simpa using h1
    simp only [e, ↓reduceIte]
    refine wpAny_bind (wpAny_pure ?_)
    exact wpAny_pure ⟨_, rfl, (fun x => nomatch x), h⟩
end
section
variable {prog : Program} {w : World} {A : Around} {E : Value → Shared → Prop} {s : Shared}
set_option maxHeartbeats 3200000 in
theorem set_textsT {l : Addr} {items : Array Value} {xs : List Str} {Q : Value → Shared → Prop} (calm : A.handled = none) (hl : s.heap.IsTuple l items) (hi : PyProof.Rows.StrsAre items.toList xs) (few : xs.length + 1 < scanBound)
    (h : ∀ (h' : Heap) (tk : Nat), HV.At prog w xs s.heap.objs.size xs.length h' → (∀ b o, b < s.heap.objs.size → s.heap.get? b = some o → h'.get? b = some o) → Q (.ref s.heap.objs.size) { s with heap := h', toks := tk }) :
    wpAny (model prog w) A (call (.type "set") [.ref l]) Q E s := by
  have len : xs.length = items.size := by rw [← StrsAre.len_eq hi, Array.length_toList]
  obtain ⟨c, tl, hmro⟩ := PySem.F.called_set.mro
  have hmade := PySem.F.called_set.made
  have hsub := PySem.F.called_set.sub
  have h1 := PySem.F.called_set.notType
  have h2 := PySem.F.called_set.canCreate
  have hct := PySem.F.typeCall_set_1 (.ref l)
  refine wpAny_call (codeAny_of_tree ?_)
  show wpAny _ _ (callAny (.type "set") _) _ _ _
  refine wpAny_pure ⟨Code.quiet_builtin _ (by decide +kernel), codeAny_builtin PySem.F.entry_type_call ?_⟩
  rw [Around.under_plain (weight_type_call_type "set" [.ref l] []) rfl]
  repeat (any_goals (first | assumption | wp_step))
  refine codeAny_mono (code_set_new_1 (.ref l) (E := E) (Q₁ := fun obj s₁ => ∃ led, obj = .ref s.heap.objs.size ∧ s₁ = { s with heap := s.heap.push (HV.bare led) }) fun led => ⟨led, rfl, rfl⟩) fun r s₁ hr => ?_
  rcases r with e | fl
  · exact hr
  cases fl with
  | ret obj =>
    obtain ⟨led, rfl, rfl⟩ := hr
    have hS : (s.heap.push (HV.bare led)).get? s.heap.objs.size = some (HV.bare led) := Heap.get?_push_size _ rfl
    have hT : Shared.TypeIs { s with heap := s.heap.push (HV.bare led) } (.ref s.heap.objs.size) "set" := ⟨_, hS, rfl⟩
    have hli := PySem.F.called_set.init.lookup
    have hbi := PySem.F.called_set.init.bind (.ref s.heap.objs.size)
    repeat (any_goals (first | assumption | wp_step))
    refine codeAny_mono (codeAny_call_builtin (R := wants (fun r s₂ => r = .none ∧ ∃ h' tk, s₂ = { s with heap := h', toks := tk } ∧ HV.At prog w xs s.heap.objs.size xs.length h' ∧ (∀ b o, b < s.heap.objs.size → s.heap.get? b = some o → h'.get? b = some o)) E)
      PySem.F.called_set.init.plain PySem.F.entry_set_init (check_set_init_1 hT ?_)) fun r₂ s₂ hr₂ => ?_
    · obtain ⟨⟨ocls, odict, odata, oslots⟩, hol, hcl, nl, hdl⟩ := hl
      simp only at hcl hdl
      subst hcl; subst hdl
      have hlS : l < s.heap.objs.size := Heap.lt_size hol
      have hol' := Heap.get?_push_of_some (HV.bare led) hol
      have hl1 : (s.heap.push (HV.bare led)).IsTuple l items := ⟨_, hol', rfl, nl, rfl⟩
      have hsls := PySem.F.sub_tuple_set
      have hslf := PySem.F.sub_tuple_frozenset
      have hne : (Value.type "tuple" == Value.type "dict") = false := by decide
      unfold Builtin.«set.__init__» noKeywords Builtin.Frozenset.updateFrom
      generalize hPI : pyIter = PI
      wp_walk
      subst hPI
      refine wpAny_pyIter_tuple hl1 (wpAny_bind (wpAny_runValue ?_))
      have sz : (s.heap.push (HV.bare led)).objs.size = s.heap.objs.size + 1 := Heap.size_push ..
      have calm3 : A.in1.in1.in1.handled = none := by simp [calm]
      have hval : ∀ (i : Nat) (v : Value), items[i]? = some v → ∃ t, v = .str (xs.getD i Str.empty) t := fun i v hv => SS.strs_at hi i v (by rw [Array.getElem?_toList]; exact hv)
      refine HV.loopV (n := items.size) ((Walks.tuple calm3 _ l (by rw [sz]; exact Nat.ne_of_lt (Nat.lt_succ_of_lt hlS)) items).toS) s.heap.objs.size (by rw [sz]; simp only [List.mem_cons, List.not_mem_nil, or_false, not_or]; exact ⟨Nat.ne_of_lt (Nat.lt_succ_self _), Nat.ne_of_gt hlS⟩) xs len (by omega) hval items.size 0 _ (by omega)
        ⟨⟨_, Heap.get?_push_size _ rfl, rfl, rfl⟩, (Heap.IsTuple.push hl1 _)⟩ ?zS ?zR
      case zS =>
        have hget := Heap.get?_push_of_some ({ cls := .type "tuple_iterator", data := .fields #[.ref l, .int 0 0] } : Obj) hS
        exact PyProof.Rows.SetOf_congr ((PyProof.Rows.setObjOf_fresh (knd := PySem.strKind prog w) led).setOf hget (by unfold scanBound; omega)) (fun _ => rfl) rfl
      case zR =>
        intro s' mv hS'
        obtain ⟨h', g', d', tk', os'⟩ := s'
        cases (show g' = s.gens from mv.gens)
        cases (show d' = s.drawn from mv.drawn)
        cases (show os' = s.os from mv.os)
        refine wpAny_pure (wpAny_pure ⟨rfl, h', tk', rfl, by rw [len]; exact hS', fun b o hb e => ?_⟩)
        exact mv.heap b o (by rw [sz]; simp only [List.mem_cons, List.not_mem_nil, or_false, not_or]; exact ⟨Nat.ne_of_lt hb, Nat.ne_of_lt (Nat.lt_succ_of_lt hb)⟩) (Heap.get?_push_of_some _ (Heap.get?_push_of_some _ e))
    · rcases r₂ with e | fl₂
      · exact hr₂
      cases fl₂ with
      | ret r =>
        obtain ⟨rfl, h', tk, rfl, hS', hk'⟩ := hr₂
        repeat (any_goals (first | assumption | wp_step))
        exact h _ _ hS' hk'
      | _ => exact hr₂.elim
  | _ => exact hr.elim
end
/-- the set of texts at a -/
def SetS (P : Program) (w : World) (a : Addr) (S : Str → Bool) (n : Nat) : HO := .ext fun h => h.SetOf (PySem.strKind P w) a S n
section
variable {X : Cx}
theorem setOfS_at {P : Program} {w : World} {h h' : Heap} {a : Addr} {S : Str → Bool} {n : Nat} (R : h.SetOf (PySem.strKind P w) a S n) (k : ∀ o, h.get? a = some o → h'.get? a = some o) : h'.SetOf (PySem.strKind P w) a S n := by
  obtain ⟨o, es, ep, t, ho, r⟩ := R
  exact ⟨o, es, ep, t, k o ho, r⟩
theorem setS_new {w : World} {P : Program} {H : Hp} {h : Heap} {a : Addr} {S : Str → Bool} {n : Nat} (R : h.SetOf (PySem.strKind P w) a S n) : ObjOk P w H h a (SetS P w a S n) := by
  have ⟨o, _, _, _, ho, _⟩ := R
  exact ⟨R, ⟨o, ho⟩, fun h1 h2 p k => setOfS_at p k⟩
theorem setS_get {pins : List (Addr × Obj)} {σ : L2.St} {H : Hp} {s : Shared} {a : Addr} {S : Str → Bool} {n : Nat} (I : Inv X pins σ H s) (ha : H a = some (SetS X.prog X.w a S n)) : s.heap.SetOf (PySem.strKind X.prog X.w) a S n := (I.hok a _ ha).1
/-- set(t), t a tuple of texts -/
def rSetT (K : PySem.W.Frag) (P : Program) (w : World) : List V → Hp → VK → Prop := fun vs H Q => ∃ (t : Addr) (zs : List Str), vs = [V.ref t] ∧ SqT K H t (zs.map V.str) ∧ zs.length ≤ 3000 ∧ ∀ p, H p = none → Q (.ref p) (upd H p (SetS P w p (fun k => zs.any (· == k)) (HV.uq zs zs.length)))
theorem call_setT (hc : X.calm = true) : CallR X (.type "set") (rSetT X.K X.prog X.w) := by
  intro pins s σ H vs us Q I r h
  obtain ⟨t, zs, rfl, hq, hl, q⟩ := h
  obtain ⟨its, rv, pl, _⟩ := I.tuple hq
  rw [Vals.ref1 r]
  refine set_textsT (I.ok.hd hc) pl (by simpa using strsAre_of rv) (by unfold scanBound; omega) fun h' tk hS hk => ?_
  have hS' : h'.SetOf (PySem.strKind X.prog X.w) s.heap.objs.size (fun k => zs.any (· == k)) (HV.uq zs zs.length) := by
    have : (zs.take zs.length) = zs := List.take_length
    unfold HV.At at hS
    rw [this] at hS
    exact hS
  exact ⟨.ref _, upd H s.heap.objs.size (SetS X.prog X.w s.heap.objs.size (fun k => zs.any (· == k)) (HV.uq zs zs.length)), I.laid (t' := tk) (fun b u e => hk b u (Heap.lt_size e) e) (Nat.le_refl _) (setS_new hS'), rfl, q _ (I.hok.fresh (Nat.le_refl _))⟩
/-- {e} -/
def tSet1 (P : Program) (w : World) (tb : TE) : TE := fun σ H Q => ∀ p, H p = none → tb σ (upd H p (SetS P w p (fun _ => false) 0)) fun y H2 => H2 p = some (SetS P w p (fun _ => false) 0) ∧ ∃ z, y = .str z ∧ Q (.ref p) (upd H2 p (SetS P w p (fun k => decide (k = z)) 1))
theorem pe_set1 {e : Expr} {te : TE} {pos : Pos} (he : PE X e te) (hcd : PySem.W.kdsCode X.K X.env.code = true) (hp : PySem.W.kdsPlain e = true := by rfl) : PE X (.Set [e] 0 pos) (tSet1 X.prog X.w te) := by
  refine ⟨fun pins s σ H Q I h => ?_⟩
  rw [arm_eval_Set]
  refine wpAny_bind (wpAny_standAt ?_)
  refine wpAny_bind (PySem.W.kds_main I.kIn hcd fun b => ?_)
  rw [PySem.W.kds_star [e] (by simp [hp]), List.map_map]
  refine PySem.W.kds_core (ts := (evalEach [e] X.env).map fun t => do let v ← t; standAt pos; pure v) (by rfl) ?_ ?_ ?_ fun led => ?_
  · refine List.findIdx?_eq_none_iff.mpr fun x hx => ?_
    obtain ⟨t, _, rfl⟩ := List.mem_map.mp hx
    rfl
  · rw [List.length_map, PySem.W.kds_len]
    show 1 ≤ 30
    decide
  · rw [List.map_map]
    try rfl
  · have S0 : (s.heap.push { cls := .type "set", dict := none, data := .set #[] 0 (.fresh 0 0 led) }).SetOf (PySem.strKind X.prog X.w) s.heap.objs.size (fun _ => false) 0 := (PyProof.Rows.setObjOf_fresh (knd := PySem.strKind X.prog X.w) led).setOf (Heap.get?_push_size _ rfl) (by decide)
    have I1 : Inv X pins σ (upd H s.heap.objs.size (SetS X.prog X.w s.heap.objs.size (fun _ => false) 0)) { s with heap := s.heap.push { cls := .type "set", dict := none, data := .set #[] 0 (.fresh 0 0 led) } } := I.laid (t' := s.toks) (fun b u e => Heap.get?_push_of_some _ e) (Nat.le_refl _) (setS_new S0)
    refine PySem.W.kds_all pos [e] _ _ ?_
    show wpAny _ _ (eval e X.env) _ _ _
    refine thn (he.run pins _ σ _ _ I1 (h _ (I.hok.fresh (Nat.le_refl _)))) fun v s1 ⟨y, H2, I2, ry, h2, z, ey, q⟩ => ?_
    subst ey
    obtain ⟨t, rfl⟩ := ry
    have hSg : s1.heap.SetOf (PySem.strKind X.prog X.w) s.heap.objs.size (fun _ => false) 0 := setS_get I2 h2
    refine PySem.W.kds_fill_cons ?_
    unfold setAdd
    refine wpAny_holding (wpAny_bind ((PySem.strKind X.prog X.w).pyHash (k := z) (strKind_is _ _ _ _) ?_))
    refine wpAny_setAddHashed_of (knd := PySem.strKind X.prog X.w) (s := { s1 with toks := s1.toks + 1 }) (strKind_is _ _ _ _) rfl hSg (by decide) fun h' sb hS' => ?_
    have hS1 : h'.SetOf (PySem.strKind X.prog X.w) s.heap.objs.size (fun k => decide (k = z)) 1 := SetOf_congr hS' (fun x => by simp) rfl
    have hex : ∃ u, h'.get? s.heap.objs.size = some u := by
      have ⟨o, _, _, _, ho, _⟩ := hS1
      exact ⟨o, ho⟩
    exact PySem.W.kds_fill_nil rfl ⟨.ref _, upd H2 s.heap.objs.size (SetS X.prog X.w s.heap.objs.size (fun k => decide (k = z)) 1), I2.write (e := s.heap.objs.size) (t' := s1.toks + 1) (by rw [h2]; trivial) (.inl rfl) (fun b u hb hu => (sb.2 b hb).trans hu) hex (setS_new hS1), rfl, q⟩
/-- set(t) == {z} -/
def rEqSet1 (P : Program) (w : World) : R2 := fun x y H Q => ∃ (a b : Addr) (S : Str → Bool) (n : Nat) (z : Str), x = .ref a ∧ y = .ref b ∧ H a = some (SetS P w a S n) ∧ H b = some (SetS P w b (fun k => decide (k = z)) 1) ∧ Q (.bl (decide (n = 1) && S z)) H
theorem op_eqSet1 (hu : X.A.units < cLine) : OpR X (compareOp .Eq) (rEqSet1 X.prog X.w) := by
  intro pins s σ H x y v u Q I rx ry h
  obtain ⟨a, b, S, n, z, rfl, rfl, ha, hb, q⟩ := h
  cases rx
  cases ry
  exact rc_set1 (setS_get I ha) (setS_get I hb) hu ⟨.bl _, H, I, rfl, q⟩
end
/-- THE RULE for a def, its code known to stand -/
theorem Fun.okC {P : Program} {w : World} {K : PySem.W.Frag} {mg : Str → Option Value} {base : Heap} {x qual : Str} {st : Stmt} {f : Addr} {fd : FuncData} {N ps : List Str} {k : Nat} {sp : Sp} (F : Fun K x qual st f fd) (S : FnScope N ps (defScope st)) (len : ∀ vs H Q E, sp vs H Q E → vs.length = ps.length)
    (hbody : ∀ (cdv : Value) (A : Around) (outer : List Env) (s : Shared) (H : Hp) (vs : List V) (Q : VK) (E : XK), PySem.W.kdsCode K cdv = true → Room k (A.deeper (envOfC qual (defScope st) s.heap.objs.size f cdv)) → sp vs H Q E →
      ∃ t, PSs (cxOf CX0 P w K mg base N qual (defScope st) f cdv A outer s H E).nox (defBody st) t ∧ t { nx := fun _ H' => Q .non H', rt := Q } (start N vs) H) : FnOk P w K mg base CX0 (k + 1) f fd ps sp := by
  obtain ⟨oc, od, kV, doc, pm, an, cdv, ct, osl, rfl, lk, hcd⟩ := F.ex
  refine fn_of lk hcd S len fun A outer s H vs Q E hr hsp => ?_
  have hk : PySem.W.kdsCode K cdv = true := by
    unfold PySem.W.codeIn at hcd
    unfold PySem.W.kdsCode
    split at hcd
    · rename_i c
      split at hcd
      · rename_i e
        show (match List.lookup c K with | some ⟨_, _, .fields _, _⟩ => true | _ => false) = true
        rw [e]
      · cases hcd
    · cases hcd
  obtain ⟨t, h, q⟩ := hbody cdv A outer s H vs Q E hk hr hsp
  exact ⟨t, h.nox, q⟩
section
variable {X : Cx}
/-- t.count(x), t a tuple of data -/
def rCountT (K : PySem.W.Frag) : V → List V → Hp → VK → Prop := fun x xs H Q => ∃ (a : Addr) (y : V) (d : PyData) (ds : List PyData), x = V.ref a ∧ xs = [y] ∧ Dp K H (V.ref a) (.tuple ds) ∧ Dp K H y d ∧
  SeqAt.shaped (.tuple ds) = true ∧ SeqAt.shaped d = true ∧ Q (.int (ds.countP (fun z => PyData.eqv z d) : Nat)) H
theorem mt_countT (hu : X.A.units + 65 < cLine) : MtR X "tuple.count" (rCountT X.K) := by
  intro pins s σ H x xs v us Q I rx rxs h
  obtain ⟨a, y, d, ds, rfl, rfl, hl, hy, sl, sd, q⟩ := h
  cases rx
  cases rxs with
  | cons ry rt =>
    rename_i uy ut
    cases rt
    obtain ⟨bs, r1⟩ := Dp.reads I d y uy hy ry
    have hxs : PyData.canLayAll0 ds = true := SeqAt.canLay_of_shaped sl
    have hroom : X.A.units + 1 + min (PyData.depthAll ds) d.depth < cLine := room_in_shaped sd hu
    cases hl with
    | tup hs ha =>
      obtain ⟨its, rv, ⟨⟨cls, dd, data, sls⟩, ho, hc, n, hdt⟩, hlen⟩ := I.tuple hs
      simp only at hc hdt
      subst hc hdt
      obtain ⟨as, h4⟩ := Dp.readsAll I ds _ its ha rv
      have hmap : its.map (SeqAt.readOf s.heap) = ds := SeqAt.readsAll_map ds its as hxs h4
      refine call_meets PySem.F.slot_tuple_count ⟨_, ho, rfl⟩ PySem.F.entry_tuple_count (PySem.F.args_tuple_count_2 _ _)
        (SeqAt.tuple_countAt a its.toArray n dd sls uy (fun u => PyData.eqv (SeqAt.readOf s.heap u) d)) ⟨ho, SeqAt.items_eqAt (vs := its.toArray) (show ReadsAll s.heap its.toArray.toList ds as from h4) r1 hxs (SeqAt.canLay_of_shaped sd) hroom, ?_⟩
      have ec : its.toArray.toList.countP (fun u => PyData.eqv (SeqAt.readOf s.heap u) d) = ds.countP (fun z => PyData.eqv z d) := by
        rw [← hmap, List.countP_map]
        rfl
      refine ⟨.int (ds.countP (fun z => PyData.eqv z d) : Nat), H, I.tok _, ⟨s.toks, ?_⟩, q⟩
      rw [ec]
end
end HAC
/-! Own rules over the hand layer: tuples whose objects have no dict of their own; their methods. -/
namespace HAD
open PySem PySem.Spec PyProof.Rows L2 HX
/-- a plain tuple -/
def PlT (H : Hp) (a : Addr) (xs : List V) : Prop := ∃ o, H a = some (.frz o (.tup xs)) ∧ o.dict = none
theorem PlT.sqt {K : PySem.W.Frag} {H : Hp} {a : Addr} {xs : List V} (h : PlT H a xs) : SqT K H a xs := let ⟨o, e, _⟩ := h; .inl (.inr ⟨o, e⟩)
section
variable {X : Cx}
/-- a display -/
def tTupP (t : TA) : TE := fun σ H Q => t σ H fun xs H1 => xs.length ≤ sizeLine ∧ ∀ p o, H1 p = none → o.dict = none → Q (.ref p) (upd H1 p (.frz o (.tup xs)))
theorem pe_tupP {es : List Expr} {t : TA} {pos : Pos} {x1} (h : PA X es t) : PE X (.Tuple es x1 pos) (tTupP t) := by
  refine ⟨fun pins s σ H Q I hq => ?_⟩
  refine wpAny_Tuple_spliced (thn (h.run pos pins s σ H _ I hq) fun us s1 ⟨xs, H1, I1, r, z, q⟩ => ⟨by rw [← r.length]; exact z, ?_⟩)
  have hf : H1 s1.heap.objs.size = none := I1.hok.fresh (Nat.le_refl _)
  have e : (s1.heap.push { cls := .type "tuple", data := .seq us.toArray }).get? s1.heap.objs.size = some { cls := .type "tuple", data := .seq us.toArray } := Heap.get?_push_size _ rfl
  exact ⟨.ref s1.heap.objs.size, upd H1 s1.heap.objs.size (.frz { cls := .type "tuple", data := .seq us.toArray } (.tup xs)), I1.laid (t' := s1.toks) (fun b u e => Heap.get?_push_of_some _ e) (Nat.le_refl _) (show ObjOk X.prog X.w _ _ _ (.frz _ (.tup xs)) from ⟨e, z, us, r, _, e, rfl, _, rfl⟩), rfl, q _ _ hf rfl⟩
/-- t + u: u empty gives t, t empty gives u -/
def rCatP (K : PySem.W.Frag) : R2 := fun x y H Q => ∃ a b xs ys, x = .ref a ∧ y = .ref b ∧ SqT K H a xs ∧ SqT K H b ys ∧ xs.length + ys.length ≤ sizeLine ∧
  (xs = [] → Q (.ref b) H) ∧ (xs ≠ [] → ys = [] → Q (.ref a) H) ∧ (xs ≠ [] → ys ≠ [] → ∀ p o, H p = none → o.dict = none → Q (.ref p) (upd H p (.frz o (.tup (xs ++ ys)))))
theorem op_catP : OpR X (binaryOp .Add) (rCatP X.K) := by
  intro pins s σ H x y v u Q I rx ry h
  obtain ⟨a, b, xs, ys, rfl, rfl, ha, hb, hz, q0, q1, q2⟩ := h
  by_cases hx : xs = []
  · subst hx
    exact HT2.op_catA pins s σ H _ _ v u Q I rx ry ⟨a, b, [], ys, rfl, rfl, ha, hb, hz, fun _ => q0 rfl, fun n => absurd rfl n, fun n => absurd rfl n⟩
  · cases rx
    cases ry
    obtain ⟨its, r1, p1, _⟩ := I.tuple ha
    obtain ⟨its2, r2, p2, _⟩ := I.tuple hb
    refine HT.cat_tup p1 p2 (fun z => hx (r1.nil_iff.mp z)) (fun z => ⟨.ref a, H, I, rfl, q1 hx (r2.nil_iff.mp z)⟩) (fun z => ?_) (by rw [← r1.length, ← r2.length]; exact hz)
    have e : (s.heap.push { cls := .type "tuple", data := .seq (its ++ its2).toArray }).get? s.heap.objs.size = some { cls := .type "tuple", data := .seq (its ++ its2).toArray } := Heap.get?_push_size _ rfl
    exact ⟨.ref s.heap.objs.size, _, I.laid (t' := s.toks) (o := .frz { cls := .type "tuple", data := .seq (its ++ its2).toArray } (.tup (xs ++ ys))) (fun b ob q => Heap.get?_push_of_some _ q) (Nat.le_refl _) (show ObjOk X.prog X.w _ _ _ (.frz _ (.tup (xs ++ ys))) from ⟨e, by rw [List.length_append]; exact hz, _, r1.append r2, _, e, rfl, _, rfl⟩), rfl, q2 hx (fun w => z (r2.nil_iff.mpr w)) _ _ (I.hok.fresh (Nat.le_refl _)) rfl⟩
/-- a method of a plain tuple -/
def tBMt (r : V → List V → Hp → VK → Prop) (to : TE) (t : TA) : TE := fun σ H Q => to σ H fun x H1 => (∃ p xs, x = .ref p ∧ PlT H1 p xs) ∧ t σ H1 fun xs H2 => r x xs H2 Q
variable {o e : Expr} {es : List Expr} {to : TE} {t : TA} {name : Str} {apos cpos : Pos} {id : String} {r : V → List V → Hp → VK → Prop}
theorem pe_bmt (pa : PlainAttrs "tuple") (slot : Slot "tuple" name id) (hty : typeOf (.builtin id) = pure (.type "method_descriptor")) (hm : MtR X id r) (ho : PE X o to) (ha : PA X (e :: es) t)
    (hbase : attributeBase o name X.env (eval o X.env) = eval o X.env := by rfl)
    (hfew : ((backTo cpos (starEach (e :: es) X.env)).all (fun x => !x.1) && (backToKw cpos (keywordEach [] X.env)).all (fun x => x.1.isSome)
      && decide ((e :: es).length + ([] : List Keyword).length + (if ([] : List Keyword).isEmpty then 0 else 1) < 30)) = true := by rfl)
    (hline : (apos.endLine == cpos.line) = true := by rfl) (hs : starEach (e :: es) X.env = (false, eval e X.env) :: starEach es X.env := by rfl) (hplain : (backTo cpos (starEach es X.env)).any (·.1) = false := by rfl) :
    PE X (.Call (.Attribute o name apos) (e :: es) [] cpos) (tBMt r to t) := by
  refine ⟨fun pins s σ H Q I h => ?_⟩
  refine wpAny_Call_method_late hbase hfew hline rfl (thn (ho.run pins s σ H _ I h) fun v s1 ⟨x, H1, I1, r1, ty, q1⟩ => ?_)
  obtain ⟨p, xs, rfl, ob, hp, hdn⟩ := ty
  have r0 := r1
  cases r1
  have hk := I1.hok p _ hp
  have hg : s1.heap.get? p = some ob := hk.1
  have hcls : ob.cls = .type "tuple" := by
    obtain ⟨_, its, _, o2, e2, c2, _⟩ := hk.2
    rw [hg] at e2
    cases e2
    exact c2
  refine ⟨"tuple", id, pa, slot, hty, ⟨ob, hg, hcls⟩, fun a e => by cases e; exact ⟨ob, hg, hdn⟩, ?_⟩
  have hA := ha.run cpos pins s1 σ H1 _ I1 q1
  rw [hs] at hA ⊢
  refine Calls.callWith_builtin (by show (false || (backTo cpos (starEach es X.env)).any (·.1)) = false; rw [hplain] <;> rfl) (Calls.evalArgs_plain ?_)
  exact thn hA fun us s2 ⟨vs, H2, I2, r2, q2⟩ => hm pins s2 σ H2 _ vs _ us Q I2 r0 r2 q2
end
end HAD
/-! a tuple put together n times, n from 0 on -/
namespace HAE
open PySem PySem.Spec PyProof.Rows L2
theorem tuple_mul0 (l : Addr) (items : Array Value) (n : Nat) (dd : Option Addr) (sl : Array (Option Value)) (u : Tok) (hne : items.isEmpty = false) :
    Meets (Builtin.«tuple.__mul__» ⟨[.ref l, .int 0 u], []⟩) (fun _ R s => s.heap.get? l = some { cls := .type "tuple", dict := dd, data := .seq items n, slots := sl } ∧
      R (.ok (.ret (Value.ref s.heap.objs.size))) { s with heap := s.heap.push { cls := Value.type "tuple", data := Data.seq #[] }, toks := s.toks }) :=
  .of_wp fun prog w A R s h => by
    obtain ⟨hp, g, d, tk, os⟩ := s
    obtain ⟨hl, h⟩ := h
    have f1 := AutoSeq1.idx_int
    wp_walk using wpAny_loadPart' hl
    exact ⟨_, rfl, h⟩
theorem tuple_mul1 (l : Addr) (items : Array Value) (n : Nat) (dd : Option Addr) (sl : Array (Option Value)) (u : Tok) (hne : items.isEmpty = false) :
    Meets (Builtin.«tuple.__mul__» ⟨[.ref l, .int 1 u], []⟩) (fun _ R s => s.heap.get? l = some { cls := .type "tuple", dict := dd, data := .seq items n, slots := sl } ∧
      R (.ok (.ret (Value.ref l))) s) :=
  .of_wp fun prog w A R s h => by
    obtain ⟨hp, g, d, tk, os⟩ := s
    obtain ⟨hl, h⟩ := h
    have f1 := AutoSeq1.idx_int
    wp_walk using wpAny_loadPart' hl
    exact ⟨_, rfl, h⟩
def rRepB (K : PySem.W.Frag) : R2 := fun x y H Q => ∃ l k xs, x = .ref l ∧ y = .int k ∧ SqT K H l xs ∧ xs ≠ [] ∧ 0 ≤ k ∧ k ≤ 1000 ∧ xs.length ≤ 1000 ∧ (k = 1 → Q (.ref l) H) ∧ (k ≠ 1 → ∀ p, H p = none → Q (.ref p) (upd H p (.tup (List.replicate k.toNat xs).flatten)))
section
variable {X : Cx}
theorem op_repB : OpR X (binaryOp .Mult) (rRepB X.K) := by
  intro pins s σ H x y v u Q I rx ry h
  obtain ⟨l, k, xs, rfl, rfl, hT, hne, h1, h2, hz, q1, q2⟩ := h
  by_cases k2 : 2 ≤ k
  · exact op_repT pins s σ H _ _ v u Q I rx ry ⟨l, k, xs, rfl, rfl, hT, hne, k2, h2, hz, q2 (by omega)⟩
  cases rx
  obtain ⟨t, rfl⟩ := ry
  obtain ⟨its, r, ⟨⟨cls, dd, data, sl⟩, ho, hc, n, hd⟩, hs⟩ := I.tuple hT
  simp only at hc hd
  subst hc hd
  have hle : its.length = xs.length := r.length.symm
  have hi : its.toArray.isEmpty = false := by
    cases its with
    | nil =>
      exact absurd (List.eq_nil_of_length_eq_zero hle.symm) hne
    | cons a b => rfl
  rcases (by omega : k = 0 ∨ k = 1) with rfl | rfl
  · refine wpAny_binaryOp_repeat_ref (T := "tuple") (U := "int") (by decide) ⟨_, ho, rfl⟩ (fun s' => typeIs_int s' 0 t) noFill_tuple_mul F.fills_int_mul F.slot_int_rmul repeat_tuple F.slot_int_index.lookup
      (call_meets F.slot_int_rmul (typeIs_int s 0 t) F.entry_int_rmul (F.args_int_rmul_2 _ _) (int_rmul_tuple 0 t l its.toArray n dd sl)
        ⟨ho, rfl, ⟨_, ho, rfl⟩, call_meets F.slot_tuple_mul ⟨_, ho, rfl⟩ F.entry_tuple_mul (F.args_tuple_mul_2 _ _) (tuple_mul0 l its.toArray n dd sl t hi) ⟨ho, ?_⟩⟩)
    refine ⟨.ref s.heap.objs.size, _, I.laid (t' := s.toks) (o := .tup []) (fun b ob q => Heap.get?_push_of_some _ q) (Nat.le_refl _) ?_, rfl, q2 (by decide) _ (I.hok.fresh (Nat.le_refl _))⟩
    exact ⟨Nat.zero_le _, [], .nil, IsTup.new _ _⟩
  · refine wpAny_binaryOp_repeat_ref (T := "tuple") (U := "int") (by decide) ⟨_, ho, rfl⟩ (fun s' => typeIs_int s' 1 t) noFill_tuple_mul F.fills_int_mul F.slot_int_rmul repeat_tuple F.slot_int_index.lookup
      (call_meets F.slot_int_rmul (typeIs_int s 1 t) F.entry_int_rmul (F.args_int_rmul_2 _ _) (int_rmul_tuple 1 t l its.toArray n dd sl)
        ⟨ho, rfl, ⟨_, ho, rfl⟩, call_meets F.slot_tuple_mul ⟨_, ho, rfl⟩ F.entry_tuple_mul (F.args_tuple_mul_2 _ _) (tuple_mul1 l its.toArray n dd sl t hi) ⟨ho, ?_⟩⟩)
    exact ⟨.ref l, H, I, rfl, q1 rfl⟩
end
end HAE
namespace TP
open PySem PySem.Spec PyProof.Rows L2 HX HB HG HU HH HD HS
def topS (i : Nat) : Stmt := PySem.Challenge.pw_nestyard_k09_lone_at_the_bounds.main.body.getD i (.Pass ⟨0, 0, 0, 0⟩)
abbrev s_isname : Stmt := topS 3
theorem sc_isname : FnScope ["thing", "sign"] ["thing"] (defScope s_isname) := ⟨rfl, rfl, rfl, by decide +kernel, rfl, by decide +kernel, by decide +kernel⟩

abbrev s_isnum : Stmt := topS 4
theorem sc_isnum : FnScope ["thing"] ["thing"] (defScope s_isnum) := ⟨rfl, rfl, rfl, by decide +kernel, rfl, by decide +kernel, by decide +kernel⟩

abbrev s_iscalc : Stmt := topS 5
theorem sc_iscalc : FnScope ["thing"] ["thing"] (defScope s_iscalc) := ⟨rfl, rfl, rfl, by decide +kernel, rfl, by decide +kernel, by decide +kernel⟩

abbrev s_bodies : Stmt := topS 19
theorem sc_bodies : FnScope ["row", "kind", "part"] ["row"] (defScope s_bodies) := ⟨rfl, rfl, rfl, by decide +kernel, rfl, by decide +kernel, by decide +kernel⟩

abbrev s_ispart : Stmt := topS 20
theorem sc_ispart : FnScope ["kind", "thing", "known", "around", "least", "most", "words", "name", "word"] ["kind", "thing", "known", "around"] (defScope s_ispart) := ⟨rfl, rfl, rfl, by decide +kernel, rfl, by decide +kernel, by decide +kernel⟩

abbrev s_isrow : Stmt := topS 21
theorem sc_isrow : FnScope ["row", "known", "around", "word", "parts", "kind", "part"] ["row", "known", "around"] (defScope s_isrow) := ⟨rfl, rfl, rfl, by decide +kernel, rfl, by decide +kernel, by decide +kernel⟩

abbrev s_around : Stmt := topS 22
theorem sc_around : FnScope ["row", "around", "name", "word"] ["row", "around"] (defScope s_around) := ⟨rfl, rfl, rfl, by decide +kernel, rfl, by decide +kernel, by decide +kernel⟩

abbrev s_wrong : Stmt := topS 23
theorem sc_wrong : FnScope ["body", "place", "known", "around", "oftens", "at", "row", "here", "more", "which", "inner", "found"] ["body", "place", "known", "around", "oftens"] (defScope s_wrong) := ⟨rfl, rfl, rfl, by decide +kernel, rfl, by decide +kernel, by decide +kernel⟩

abbrev s_first : Stmt := topS 24
theorem sc_first : FnScope ["body", "cells", "locks", "channels"] ["body", "cells", "locks", "channels"] (defScope s_first) := ⟨rfl, rfl, rfl, by decide +kernel, rfl, by decide +kernel, by decide +kernel⟩

abbrev s_places : Stmt := topS 25
theorem sc_places : FnScope ["body", "place", "found", "at", "row", "here", "which", "inner"] ["body", "place"] (defScope s_places) := ⟨rfl, rfl, rfl, by decide +kernel, rfl, by decide +kernel, by decide +kernel⟩

abbrev s_sizes : Stmt := topS 34
theorem sc_sizes : FnScope ["thing", "least", "most", "name", "size"] ["thing", "least", "most"] (defScope s_sizes) := ⟨rfl, rfl, rfl, by decide +kernel, rfl, by decide +kernel, by decide +kernel⟩

abbrev s_locks : Stmt := topS 35
theorem sc_locks : FnScope ["thing", "name"] ["thing"] (defScope s_locks) := ⟨rfl, rfl, rfl, by decide +kernel, rfl, by decide +kernel, by decide +kernel⟩

abbrev s_np : Stmt := inClass (topS 12) 0
theorem sc_np : FnScope ["self", "place"] ["self", "place"] (defScope s_np) := ⟨rfl, rfl, rfl, by decide +kernel, rfl, by decide +kernel, by decide +kernel⟩

abbrev s_prog : Stmt := inClass (topS 37) 0
theorem sc_prog : FnScope ["self", "body", "cells", "locks", "channels", "first", "keys", "widths", "wrong"] ["self", "body", "cells", "locks", "channels"] (defScope s_prog) := ⟨rfl, rfl, rfl, by decide +kernel, rfl, by decide +kernel, by decide +kernel⟩

abbrev s_npl : Stmt := inClass (topS 13) 0
theorem sc_npl : FnScope ["self", "at"] ["self", "at"] (defScope s_npl) := ⟨rfl, rfl, rfl, by decide +kernel, rfl, by decide +kernel, by decide +kernel⟩

abbrev s_rowat : Stmt := topS 36
theorem sc_rowat : FnScope ["body", "place", "row", "which", "at"] ["body", "place"] (defScope s_rowat) := ⟨rfl, rfl, rfl, by decide +kernel, rfl, by decide +kernel, by decide +kernel⟩

abbrev s_pplaces : Stmt := inClass (topS 37) 8
theorem sc_pplaces : FnScope ["self"] ["self"] (defScope s_pplaces) := ⟨rfl, rfl, rfl, by decide +kernel, rfl, by decide +kernel, by decide +kernel⟩

abbrev s_prow : Stmt := inClass (topS 37) 9
theorem sc_prow : FnScope ["self", "place", "one"] ["self", "place"] (defScope s_prow) := ⟨rfl, rfl, rfl, by decide +kernel, rfl, by decide +kernel, by decide +kernel⟩

abbrev s_peq : Stmt := inClass (topS 37) 1
theorem sc_peq : FnScope ["self", "other", "mine"] ["self", "other"] (defScope s_peq) := ⟨rfl, rfl, rfl, by decide +kernel, rfl, by decide +kernel, by decide +kernel⟩

abbrev s_plen : Stmt := inClass (topS 37) 2
theorem sc_plen : FnScope ["self"] ["self"] (defScope s_plen) := ⟨rfl, rfl, rfl, by decide +kernel, rfl, by decide +kernel, by decide +kernel⟩

abbrev s_pbody : Stmt := inClass (topS 37) 4
theorem sc_pbody : FnScope ["self"] ["self"] (defScope s_pbody) := ⟨rfl, rfl, rfl, by decide +kernel, rfl, by decide +kernel, by decide +kernel⟩

abbrev s_pcells : Stmt := inClass (topS 37) 5
theorem sc_pcells : FnScope ["self"] ["self"] (defScope s_pcells) := ⟨rfl, rfl, rfl, by decide +kernel, rfl, by decide +kernel, by decide +kernel⟩

abbrev s_plocks : Stmt := inClass (topS 37) 6
theorem sc_plocks : FnScope ["self"] ["self"] (defScope s_plocks) := ⟨rfl, rfl, rfl, by decide +kernel, rfl, by decide +kernel, by decide +kernel⟩

abbrev s_pchans : Stmt := inClass (topS 37) 7
theorem sc_pchans : FnScope ["self"] ["self"] (defScope s_pchans) := ⟨rfl, rfl, rfl, by decide +kernel, rfl, by decide +kernel, by decide +kernel⟩

abbrev s_begun : Stmt := topS 39
theorem sc_begun : FnScope ["_law_script"] ["_law_script"] (defScope s_begun) := ⟨rfl, rfl, rfl, by decide +kernel, rfl, by decide +kernel, by decide +kernel⟩

abbrev s_draw : Stmt := topS 40
theorem sc_draw : FnScope ["_law_s", "_law_size", "_law_cell", "_law_left"] ["_law_s", "_law_size"] (defScope s_draw) := ⟨rfl, rfl, rfl, by decide +kernel, rfl, by decide +kernel, by decide +kernel⟩

abbrev s_pick : Stmt := topS 41
theorem sc_pick : FnScope ["_law_s", "_law_some"] ["_law_s", "_law_some"] (defScope s_pick) := ⟨rfl, rfl, rfl, by decide +kernel, rfl, by decide +kernel, by decide +kernel⟩

abbrev s_names : Stmt := topS 42
theorem sc_names : FnScope ["_law_s", "_law_many", "_law_own", "_law_shift", "_law_letters", "_law_root", "_law_first", "_law_front", "_law_step", "_law_names_here", "_law_k", "_law_letter", "_law_part"] ["_law_s", "_law_many"] (defScope s_names) := ⟨rfl, rfl, rfl, by decide +kernel, rfl, by decide +kernel, by decide +kernel⟩

abbrev s_worth : Stmt := topS 6
theorem sc_worth : FnScope ["calc", "words", "kind", "parts", "one", "other", "part"] ["calc", "words"] (defScope s_worth) := ⟨rfl, rfl, rfl, by decide +kernel, rfl, by decide +kernel, by decide +kernel⟩

abbrev s_linit : Stmt := inClass (topS 8) 0
theorem sc_linit : FnScope ["self", "cells"] ["self", "cells"] (defScope s_linit) := ⟨rfl, rfl, rfl, by decide +kernel, rfl, by decide +kernel, by decide +kernel⟩

abbrev s_dop : Stmt := inClass (topS 8) 3
theorem sc_dop : FnScope ["self", "word", "row"] ["self", "word", "row"] (defScope s_dop) := ⟨rfl, rfl, rfl, by decide +kernel, rfl, by decide +kernel, by decide +kernel⟩

abbrev s_dor : Stmt := inClass (topS 8) 2
theorem sc_dor : FnScope ["self", "row", "word", "faults", "turn"] ["self", "row"] (defScope s_dor) := ⟨rfl, rfl, rfl, by decide +kernel, rfl, by decide +kernel, by decide +kernel⟩

abbrev s_dob : Stmt := inClass (topS 8) 1
theorem sc_dob : FnScope ["self", "body", "row", "faults"] ["self", "body"] (defScope s_dob) := ⟨rfl, rfl, rfl, by decide +kernel, rfl, by decide +kernel, by decide +kernel⟩

abbrev s_lone : Stmt := topS 9
theorem sc_lone : FnScope ["program", "alone", "faults"] ["program"] (defScope s_lone) := ⟨rfl, rfl, rfl, by decide +kernel, rfl, by decide +kernel, by decide +kernel⟩

abbrev s_lworth : Stmt := topS 45
theorem sc_lworth : FnScope ["_law_calc", "_law_words", "_law_one", "_law_two"] ["_law_calc", "_law_words"] (defScope s_lworth) := ⟨rfl, rfl, rfl, by decide +kernel, rfl, by decide +kernel, by decide +kernel⟩

abbrev s_alop : Stmt := topS 44
theorem sc_alop : FnScope ["_law_row", "_law_held", "_law_into"] ["_law_row", "_law_held"] (defScope s_alop) := ⟨rfl, rfl, rfl, by decide +kernel, rfl, by decide +kernel, by decide +kernel⟩

abbrev s_alo : Stmt := topS 43
theorem sc_alo : FnScope ["_law_rows", "_law_held", "_law_row", "_law_word", "_law_faults", "_law_first", "_law_count"] ["_law_rows", "_law_held"] (defScope s_alo) := ⟨rfl, rfl, rfl, by decide +kernel, rfl, by decide +kernel, by decide +kernel⟩

abbrev s_ldue : Stmt := topS 46
theorem sc_ldue : FnScope ["_law_program", "_law_held", "_law_faults"] ["_law_program"] (defScope s_ldue) := ⟨rfl, rfl, rfl, by decide +kernel, rfl, by decide +kernel, by decide +kernel⟩

abbrev s_lsame : Stmt := topS 47
theorem sc_lsame : FnScope ["_law_found", "_law_due"] ["_law_found", "_law_due"] (defScope s_lsame) := ⟨rfl, rfl, rfl, by decide +kernel, rfl, by decide +kernel, by decide +kernel⟩

abbrev s_wrapped : Stmt := topS 48
theorem sc_wrapped : FnScope ["_law_s", "_law_rows", "_law_names_here", "_law_deep", "_law_k", "_law_way"] ["_law_s", "_law_rows", "_law_names_here", "_law_deep"] (defScope s_wrapped) := ⟨rfl, rfl, rfl, by decide +kernel, rfl, by decide +kernel, by decide +kernel⟩

abbrev s_family : Stmt := topS 49
theorem sc_family : FnScope ["_law_s", "_law_way", "_law_names_here", "_law_big", "_law_store", "_law_bolts", "_law_inner", "_law_often", "_law_rows", "_law_k", "_law_write", "_law_name", "_law_calc", "_law_final", "_law_row"] ["_law_s", "_law_way", "_law_names_here"] (defScope s_family) := ⟨rfl, rfl, rfl, by decide +kernel, rfl, by decide +kernel, by decide +kernel⟩

abbrev s_law : Stmt := topS 50
theorem sc_law : FnScope ["_law_script", "_law_s", "_law_names_here", "_law_way", "_law_body", "_law_store", "_law_bolts", "_law_program"] ["_law_script"] (defScope s_law) := ⟨rfl, rfl, rfl, by decide +kernel, rfl, by decide +kernel, by decide +kernel⟩

structure Tp (K : PySem.W.Frag) (w : World) (mg : Str → Option Value) where
  C_YardError : Addr
  gC_YardError : mg "YardError" = some (.ref C_YardError)
  bs_YardError : HY.BaseI K C_YardError
  C_NoProgram : Addr
  gC_NoProgram : mg "NoProgram" = some (.ref C_NoProgram)
  x_NoProgram : OexC K C_NoProgram
  xf_NoProgram : XfC K C_NoProgram
  ee_NoProgram : PySem.W.exmOne K (.ref C_NoProgram) (.ref C_NoProgram) = some true
  na_NoProgram_place : NoAttr K C_NoProgram "place"
  C_Program : Addr
  gC_Program : mg "Program" = some (.ref C_Program)
  cl_Program : Cls K C_Program
  na_Program_spots : NoAttr K C_Program "spots"
  na_Program_tree : NoAttr K C_Program "tree"
  na_Program_first : NoAttr K C_Program "first"
  na_Program_bolts : NoAttr K C_Program "bolts"
  na_Program_widths : NoAttr K C_Program "widths"
  C_NoPlace : Addr
  gC_NoPlace : mg "NoPlace" = some (.ref C_NoPlace)
  x_NoPlace : OexC K C_NoPlace
  xf_NoPlace : XfC K C_NoPlace
  ee_NoPlace : PySem.W.exmOne K (.ref C_NoPlace) (.ref C_NoPlace) = some true
  na_NoPlace_at : NoAttr K C_NoPlace "at"
  C_Lone : Addr
  gC_Lone : mg "Lone" = some (.ref C_Lone)
  cl_Lone : Cls K C_Lone
  na_Lone_store : NoAttr K C_Lone "store"
  na_Lone_said : NoAttr K C_Lone "said"
  na_Lone_hour : NoAttr K C_Lone "hour"
  na_Lone_basket : NoAttr K C_Lone "basket"
  f_isname : Addr
  fd_isname : FuncData
  D_isname : Df K mg "is_name" "is_name" s_isname ["thing"] f_isname fd_isname
  f_isnum : Addr
  fd_isnum : FuncData
  D_isnum : Df K mg "is_number" "is_number" s_isnum ["thing"] f_isnum fd_isnum
  f_iscalc : Addr
  fd_iscalc : FuncData
  D_iscalc : Df K mg "is_calc" "is_calc" s_iscalc ["thing"] f_iscalc fd_iscalc
  f_bodies : Addr
  fd_bodies : FuncData
  D_bodies : Df K mg "bodies_of" "bodies_of" s_bodies ["row"] f_bodies fd_bodies
  f_ispart : Addr
  fd_ispart : FuncData
  D_ispart : Df K mg "is_part" "is_part" s_ispart ["kind", "thing", "known", "around"] f_ispart fd_ispart
  f_isrow : Addr
  fd_isrow : FuncData
  D_isrow : Df K mg "is_row" "is_row" s_isrow ["row", "known", "around"] f_isrow fd_isrow
  f_around : Addr
  fd_around : FuncData
  D_around : Df K mg "around_in" "around_in" s_around ["row", "around"] f_around fd_around
  f_wrong : Addr
  fd_wrong : FuncData
  D_wrong : Df K mg "wrong_in" "wrong_in" s_wrong ["body", "place", "known", "around", "oftens"] f_wrong fd_wrong
  f_first : Addr
  fd_first : FuncData
  dv_first_cells : Addr
  dt_first_cells : ∀ H : Hp, SqT K H dv_first_cells []
  dv_first_locks : Addr
  dt_first_locks : ∀ H : Hp, SqT K H dv_first_locks []
  dv_first_channels : Addr
  dt_first_channels : ∀ H : Hp, SqT K H dv_first_channels []
  D_first : FunD K "first_wrong" "first_wrong" (defArgs s_first) (defBody s_first) (defScope s_first) [] [("cells", V.ref dv_first_cells), ("locks", V.ref dv_first_locks), ("channels", V.ref dv_first_channels)] f_first fd_first
  g_first : mg "first_wrong" = some (.ref f_first)
  f_places : Addr
  fd_places : FuncData
  D_places : Df K mg "places_in" "places_in" s_places ["body", "place"] f_places fd_places
  f_sizes : Addr
  fd_sizes : FuncData
  D_sizes : Df K mg "are_sizes" "are_sizes" s_sizes ["thing", "least", "most"] f_sizes fd_sizes
  f_locks : Addr
  fd_locks : FuncData
  D_locks : Df K mg "are_locks" "are_locks" s_locks ["thing"] f_locks fd_locks
  f_np : Addr
  fd_np : FuncData
  D_np : Fun K "__init__" "NoProgram.__init__" s_np f_np fd_np
  b_np : L2.Binds K fd_np ["self", "place"] []
  m_np : Meth K C_NoProgram "__init__" f_np
  i_NoProgram : PySem.W.findIn K (.ref C_NoProgram) "__init__" = some (some (.ref f_np))
  ti_NoProgram : PySem.W.typeIn K (.ref f_np) = some (.type "function")
  f_prog : Addr
  fd_prog : FuncData
  D_prog : FunD K "__init__" "Program.__init__" (defArgs s_prog) (defBody s_prog) (defScope s_prog) [] [("cells", V.non), ("locks", V.non), ("channels", V.non)] f_prog fd_prog
  m_prog : Meth K C_Program "__init__" f_prog
  mk_Program : Mk K C_Program f_prog
  f_npl : Addr
  fd_npl : FuncData
  D_npl : Fun K "__init__" "NoPlace.__init__" s_npl f_npl fd_npl
  b_npl : L2.Binds K fd_npl ["self", "at"] []
  m_npl : Meth K C_NoPlace "__init__" f_npl
  i_NoPlace : PySem.W.findIn K (.ref C_NoPlace) "__init__" = some (some (.ref f_npl))
  ti_NoPlace : PySem.W.typeIn K (.ref f_npl) = some (.type "function")
  f_rowat : Addr
  fd_rowat : FuncData
  D_rowat : Df K mg "row_at" "row_at" s_rowat ["body", "place"] f_rowat fd_rowat
  f_pplaces : Addr
  fd_pplaces : FuncData
  D_pplaces : Fun K "places" "Program.places" s_pplaces f_pplaces fd_pplaces
  b_pplaces : L2.Binds K fd_pplaces ["self"] []
  m_pplaces : Meth K C_Program "places" f_pplaces
  f_prow : Addr
  fd_prow : FuncData
  D_prow : Fun K "row" "Program.row" s_prow f_prow fd_prow
  b_prow : L2.Binds K fd_prow ["self", "place"] []
  m_prow : Meth K C_Program "row" f_prow
  f_peq : Addr
  fd_peq : FuncData
  D_peq : Fun K "__eq__" "Program.__eq__" s_peq f_peq fd_peq
  b_peq : L2.Binds K fd_peq ["self", "other"] []
  m_peq : Meth K C_Program "__eq__" f_peq
  f_plen : Addr
  fd_plen : FuncData
  D_plen : Fun K "__len__" "Program.__len__" s_plen f_plen fd_plen
  b_plen : L2.Binds K fd_plen ["self"] []
  m_plen : Meth K C_Program "__len__" f_plen
  f_pbody : Addr
  fd_pbody : FuncData
  D_pbody : Fun K "body" "Program.body" s_pbody f_pbody fd_pbody
  b_pbody : L2.Binds K fd_pbody ["self"] []
  m_pbody : Meth K C_Program "body" f_pbody
  f_pcells : Addr
  fd_pcells : FuncData
  D_pcells : Fun K "cells" "Program.cells" s_pcells f_pcells fd_pcells
  b_pcells : L2.Binds K fd_pcells ["self"] []
  m_pcells : Meth K C_Program "cells" f_pcells
  f_plocks : Addr
  fd_plocks : FuncData
  D_plocks : Fun K "locks" "Program.locks" s_plocks f_plocks fd_plocks
  b_plocks : L2.Binds K fd_plocks ["self"] []
  m_plocks : Meth K C_Program "locks" f_plocks
  f_pchans : Addr
  fd_pchans : FuncData
  D_pchans : Fun K "channels" "Program.channels" s_pchans f_pchans fd_pchans
  b_pchans : L2.Binds K fd_pchans ["self"] []
  m_pchans : Meth K C_Program "channels" f_pchans
  f_begun : Addr
  fd_begun : FuncData
  D_begun : Df K mg "_law_begun" "_law_begun" s_begun ["_law_script"] f_begun fd_begun
  f_draw : Addr
  fd_draw : FuncData
  D_draw : Df K mg "_law_draw" "_law_draw" s_draw ["_law_s", "_law_size"] f_draw fd_draw
  f_pick : Addr
  fd_pick : FuncData
  D_pick : Df K mg "_law_pick" "_law_pick" s_pick ["_law_s", "_law_some"] f_pick fd_pick
  f_names : Addr
  fd_names : FuncData
  D_names : Df K mg "_law_names" "_law_names" s_names ["_law_s", "_law_many"] f_names fd_names
  f_worth : Addr
  fd_worth : FuncData
  D_worth : Df K mg "worth" "worth" s_worth ["calc", "words"] f_worth fd_worth
  f_linit : Addr
  fd_linit : FuncData
  D_linit : Fun K "__init__" "Lone.__init__" s_linit f_linit fd_linit
  b_linit : L2.Binds K fd_linit ["self", "cells"] []
  m_linit : Meth K C_Lone "__init__" f_linit
  mk_Lone : Mk K C_Lone f_linit
  f_dop : Addr
  fd_dop : FuncData
  D_dop : Fun K "do_plain" "Lone.do_plain" s_dop f_dop fd_dop
  b_dop : L2.Binds K fd_dop ["self", "word", "row"] []
  m_dop : Meth K C_Lone "do_plain" f_dop
  f_dor : Addr
  fd_dor : FuncData
  D_dor : Fun K "do_row" "Lone.do_row" s_dor f_dor fd_dor
  b_dor : L2.Binds K fd_dor ["self", "row"] []
  m_dor : Meth K C_Lone "do_row" f_dor
  f_dob : Addr
  fd_dob : FuncData
  D_dob : Fun K "do_body" "Lone.do_body" s_dob f_dob fd_dob
  b_dob : L2.Binds K fd_dob ["self", "body"] []
  m_dob : Meth K C_Lone "do_body" f_dob
  f_lone : Addr
  fd_lone : FuncData
  D_lone : Df K mg "lone" "lone" s_lone ["program"] f_lone fd_lone
  f_lworth : Addr
  fd_lworth : FuncData
  D_lworth : Df K mg "_law_worth" "_law_worth" s_lworth ["_law_calc", "_law_words"] f_lworth fd_lworth
  f_alop : Addr
  fd_alop : FuncData
  D_alop : Df K mg "_law_alone_plain" "_law_alone_plain" s_alop ["_law_row", "_law_held"] f_alop fd_alop
  f_alo : Addr
  fd_alo : FuncData
  D_alo : Df K mg "_law_alone" "_law_alone" s_alo ["_law_rows", "_law_held"] f_alo fd_alo
  f_ldue : Addr
  fd_ldue : FuncData
  D_ldue : Df K mg "_law_due_alone" "_law_due_alone" s_ldue ["_law_program"] f_ldue fd_ldue
  f_lsame : Addr
  fd_lsame : FuncData
  D_lsame : Df K mg "_law_same_lone" "_law_same_lone" s_lsame ["_law_found", "_law_due"] f_lsame fd_lsame
  f_wrapped : Addr
  fd_wrapped : FuncData
  D_wrapped : Df K mg "_law_wrapped" "_law_wrapped" s_wrapped ["_law_s", "_law_rows", "_law_names_here", "_law_deep"] f_wrapped fd_wrapped
  f_family : Addr
  fd_family : FuncData
  D_family : Df K mg "_law_family" "_law_family" s_family ["_law_s", "_law_way", "_law_names_here"] f_family fd_family
  c_LETTERS : ∃ t : Tok, mg "LETTERS" = some (.str "abcdefghijklmnopqrstuvwxyz" t)
  a_KINDS : Addr
  c_KINDS : mg "KINDS" = some (.ref a_KINDS)
  t_KINDS : ∀ H : Hp, SqT K H a_KINDS [V.str "sum", V.str "minus", V.str "less"]
  a_PARTS : Addr
  c_PARTS : mg "PARTS" = some (.ref a_PARTS)
  d_PARTS : HH.DT K w a_PARTS [("put", [V.str "name", V.str "calc"]), ("read", [V.str "name", V.str "cell"]), ("write", [V.str "cell", V.str "calc"]), ("tell", [V.str "calc"]), ("send", [V.str "channel", V.str "calc"]), ("take", [V.str "name", V.str "channel"]), ("hold", [V.str "lock", V.str "body"]), ("rest", [V.str "rest"]), ("nest", [V.str "scope", V.str "body"]), ("within", [V.str "span", V.str "scope", V.str "body"]), ("start", [V.str "home", V.str "body"]), ("off", [V.str "entered"]), ("shield", [V.str "body"]), ("fail", [V.str "name"]), ("catch", [V.str "body", V.str "name", V.str "body"]), ("try", [V.str "body", V.str "body"]), ("if", [V.str "calc", V.str "body", V.str "body"]), ("often", [V.str "times", V.str "body"])]
  a_RANGES : Addr
  c_RANGES : mg "RANGES" = some (.ref a_RANGES)
  d_RANGES : HH.DT K w a_RANGES [("rest", [V.int 0, V.int 9]), ("span", [V.int 1, V.int 9]), ("times", [V.int 0, V.int 3])]
  c_MOST_DEEP : ∃ t : Tok, mg "MOST_DEEP" = some (.int (9) t)
  c_MOST_OFTEN : ∃ t : Tok, mg "MOST_OFTEN" = some (.int (2) t)
  c_MOST_ROWS : ∃ t : Tok, mg "MOST_ROWS" = some (.int (60) t)
  c_MOST_NAMES : ∃ t : Tok, mg "MOST_NAMES" = some (.int (4) t)
  all : mg "all" = none
  bool : mg "bool" = none
  dict : mg "dict" = none
  enumerate : mg "enumerate" = none
  int : mg "int" = none
  isinstance : mg "isinstance" = none
  len : mg "len" = none
  list : mg "list" = none
  max : mg "max" = none
  range : mg "range" = none
  repr : mg "repr" = none
  set : mg "set" = none
  sorted : mg "sorted" = none
  str : mg "str" = none
  tuple : mg "tuple" = none
  zip : mg "zip" = none

/-! ### names and numbers, of any data -/
def isLow (c : Nat) : Bool := decide (97 ≤ c) && decide (c ≤ 122)
def isNameL (z : Str) : Bool := decide (1 ≤ z.length) && decide (z.length ≤ 6) && z.cps.toList.all isLow
def isNameD : PyData → Bool
  | .str z => isNameL z
  | _ => false
def isNumD : PyData → Bool
  | .int _ => true
  | _ => false
def isKindD : PyData → Bool
  | .str k => decide (k = "sum" ∨ k = "minus" ∨ k = "less")
  | _ => false
def isCalcD : PyData → Bool
  | .int _ => true
  | .str z => isNameL z
  | .tuple [k, a, b] => isKindD k && (isCalcD a && isCalcD b)
  | _ => false
theorem letters_mem (c : Nat) : decide (c ∈ ("abcdefghijklmnopqrstuvwxyz" : Str).cps.toList) = isLow c := by
  have e : ("abcdefghijklmnopqrstuvwxyz" : Str).cps.toList = (List.range 26).map (· + 97) := by decide +kernel
  rw [e]
  unfold isLow
  rw [← Bool.decide_and]
  congr 1
  simp only [List.mem_map, List.mem_range, eq_iff_iff]
  constructor
  · rintro ⟨j, hj, rfl⟩; omega
  · rintro ⟨h1, h2⟩; exact ⟨c - 97, by omega, by omega⟩
theorem kinds_in (s : Str) : inV (.str s) [.str "sum", .str "minus", .str "less"] = decide (s = "sum" ∨ s = "minus" ∨ s = "less") := by
  show (eqV (.str "sum") (.str s) || (eqV (.str "minus") (.str s) || (eqV (.str "less") (.str s) || false))) = _
  simp only [eqV, Bool.or_false, Bool.decide_or]
  have e : ∀ z : Str, (z == s) = decide (s = z) := fun z => by
    by_cases h : s = z
    · subst h; simp
    · rw [decide_eq_false h]; exact beq_eq_false_iff_ne.mpr (Ne.symm h)
  rw [e, e, e]
section
variable {P : Program} {w : World} {K : PySem.W.Frag} {mg : Str → Option Value} {base : Heap}
/-- of data: answers b, changes nothing -/
def spD (K : PySem.W.Frag) (f : PyData → Bool) : Sp := fun vs H Q _ => ∃ v d, vs = [v] ∧ Dp K H v d ∧ okD d = true ∧ ∀ H', Same H H' → Q (.bl (f d)) H'
theorem ok_isname (T : Tp K w mg) : FnOk P w K mg base CX0 1 T.f_isname T.fd_isname ["thing"] (spD K isNameD) := by
  refine T.D_isname.F.ok sc_isname (fun vs H Q E h => ?_) (fun cdv A outer s H vs Q E hr h => ?_)
  · obtain ⟨v, d, rfl, _⟩ := h
    rfl
  · obtain ⟨v, d, rfl, hd, hk, q⟩ := h
    refine ⟨_, (pss_cons (ps_if (PW.pt (pw_or (pt_not (pt_val (pe_callB call_isi (by rfl) T.isinstance (by decide +kernel) (pa_cons (pv 0) (pa_cons (pe_bltn (v := .ty "str") (by rfl) T.str (by decide +kernel) rfl) pa_nil))))) (pw_or1 (pt_not (pt_chain op_le op_le pe_int (pe_callB call_len_str (by rfl) T.len PySem.boot_len (pa_cons (pv 0) pa_nil)) pe_int)))))
  (pss_one (ps_ret pe_bl))
  pss_nil)
  (pss_one (ps_ret (pe_callB (cr_all rfl) (by rfl) T.all (by decide +kernel) (pa_cons (pe_lc (own := [("sign", 1)]) (g := gName 1) (by rfl) sc_isname.nd (pi_str (pv 0)) (blkOk_by (own := [("sign", 1)]) (N := ["thing", "sign"]) (sc := defScope s_isname) (by decide +kernel)) (fun _ _ _ _ _ => (pg_name (i := 1) sc_isname.nd rfl (.inl rfl))) (fun _ _ _ _ _ => pts_nil) (fun _ _ _ _ _ => (pe_cmpR op_in_sign (pv 1) (pe_gs (by rfl) T.c_LETTERS) rfl))) pa_nil))))), ?_⟩
    obtain ⟨ty, kin⟩ := dp_ty hd
    refine ⟨_, rfl, _, _, _, _, _, rfl, .ty "str", ty, kit_dat (by decide) kin, _, rfl, ?_⟩
    by_cases hs : kindD d = "str"
    · obtain ⟨z, rfl⟩ : ∃ z, d = .str z := by cases d <;> simp [kindD] at hs ⊢
      cases hd
      have hz : z.length ≤ 100000 := by simpa [okD] using hk
      refine ite0 (by rw [decide_eq_true hs]; rfl) ?_
      have q : ∀ H', Same H H' → Q (.bl (isNameL z)) H' := q
      refine ⟨_, rfl, _, rfl, Evl.sz_of hz, _, _, rfl, rfl, _, rfl, ?_⟩
      have fin : ∀ b : Bool, (decide (1 ≤ z.length) && decide (z.length ≤ 6)) = b → b = false → ∀ H', Same H H' → Q (.bl false) H' := fun b e eb H' s' => by
        have h2 := q H' s'
        unfold isNameL at h2
        rw [e, eb] at h2
        exact h2
      have len1 : (decide ((1 : Int) ≤ (z.length : Nat))) = decide (1 ≤ z.length) := decide_eq_decide.mpr (by omega)
      have len6 : (decide (((z.length : Nat) : Int) ≤ 6)) = decide (z.length ≤ 6) := decide_eq_decide.mpr (by omega)
      by_cases h1 : 1 ≤ z.length
      · refine ite1 (by rw [len1]; exact decide_eq_true h1) ⟨_, _, rfl, rfl, ?_⟩
        by_cases h6 : z.length ≤ 6
        · refine ⟨true, by show V.bl _ = _; rw [len6, decide_eq_true h6], ?_⟩
          refine ⟨_, rfl, _, rfl, fun D nD => lc_it walk_str (fun i H2 => Same H H2 ∧ H2 D = some (.lst ((z.cps.toList.take i).map fun c => V.bl (isLow c)))) ⟨same_upd nD, upd_same⟩ (fun _ _ _ _ => trivial) ?_ ?_⟩
          · rintro i x H2 H3 hi ⟨sm, hD⟩ ⟨rfl, c, hc, rfl⟩
            refine ⟨rfl, _, rfl, c, _, rfl, rfl, _, hD, ?_, sm.own nD, ?_⟩
            · rw [List.length_map, List.length_take, Array.length_toList]
              exact small1000 (Nat.le_trans (Nat.min_le_left _ _) (Nat.le_trans (Nat.le_of_lt hi) (Nat.le_trans h6 (by decide))))
            · rw [upd_same, letters_mem, List.take_add_one, List.map_append, Array.getElem?_toList, hc]
              rfl
          · rintro H2 ⟨sm, hD⟩
            rw [show z.cps.size = z.cps.toList.length by simp, List.take_length] at hD
            have e : (z.cps.toList.map fun c => V.bl (isLow c)) = (z.cps.toList.map isLow).map V.bl := by rw [List.map_map]; rfl
            rw [e] at hD
            refine ⟨D, _, rfl, sl hD, ?_⟩
            have h2 := q H2 sm
            unfold isNameL at h2
            rw [decide_eq_true h1, decide_eq_true h6] at h2
            rw [List.all_map]
            exact h2
        · refine ⟨false, by show V.bl _ = _; rw [len6, decide_eq_false h6], ?_⟩
          exact fin _ rfl (by rw [decide_eq_false h6, Bool.and_false]) H (Same.refl H)
      · refine ite0 (by rw [len1]; exact decide_eq_false h1) ⟨false, rfl, ?_⟩
        exact fin _ rfl (by rw [decide_eq_false h1, Bool.false_and]) H (Same.refl H)
    · refine ite1 (by rw [decide_eq_false hs]; rfl) ?_
      have : isNameD d = false := by cases d <;> first | rfl | exact absurd rfl hs
      have h2 := q H (Same.refl H)
      rw [this] at h2
      exact h2
theorem ok_isnum (T : Tp K w mg) : FnOk P w K mg base CX0 1 T.f_isnum T.fd_isnum ["thing"] (spD K isNumD) := by
  refine T.D_isnum.F.ok sc_isnum (fun vs H Q E h => ?_) (fun cdv A outer s H vs Q E hr h => ?_)
  · obtain ⟨v, d, rfl, _⟩ := h
    rfl
  · obtain ⟨v, d, rfl, hd, hk, q⟩ := h
    have q := q H (Same.refl H)
    refine ⟨_, (pss_one (ps_ret (pe_and (pe_callB call_isi (by rfl) T.isinstance (by decide +kernel) (pa_cons (pv 0) (pa_cons (pe_bltn (v := .ty "int") (by rfl) T.int (by decide +kernel) rfl) pa_nil))) (pe_one (pe_notT (pe_callB call_isi (by rfl) T.isinstance (by decide +kernel) (pa_cons (pv 0) (pa_cons (pe_bltn (v := .ty "bool") (by rfl) T.bool (by decide +kernel) rfl) pa_nil)))))))), ?_⟩
    obtain ⟨ty, kin⟩ := dp_ty hd
    refine ⟨_, rfl, _, _, _, _, _, rfl, .ty "int", ty, kit_datInt kin, _, rfl, ?_⟩
    by_cases hi : kindD d = "int"
    · refine ite1 (decide_eq_true (.inl hi)) ⟨_, rfl, _, _, _, _, _, rfl, .ty "bool", ty, kit_dat (by decide) kin, _, rfl, ?_⟩
      rw [show isNumD d = true by cases d <;> simp [kindD] at hi <;> rfl] at q
      rw [hi]
      exact q
    · by_cases hb : kindD d = "bool"
      · refine ite1 (decide_eq_true (.inr hb)) ⟨_, rfl, _, _, _, _, _, rfl, .ty "bool", ty, kit_dat (by decide) kin, _, rfl, ?_⟩
        rw [show isNumD d = false by cases d <;> first | rfl | exact absurd rfl hi] at q
        rw [hb]
        exact q
      · refine ite0 (decide_eq_false (fun h => h.elim hi hb)) ?_
        rw [show isNumD d = false by cases d <;> first | rfl | exact absurd rfl hi] at q
        exact q
/-- what an item of a tuple is -/
theorem dp_tup {K : PySem.W.Frag} {H : Hp} {v : V} {ds : List PyData} (h : Dp K H v (.tuple ds)) : ∃ (a : Addr) (xs : List V), v = .ref a ∧ SqT K H a xs ∧ DpAll K H xs ds := by
  cases h with
  | tup h1 h2 => exact ⟨_, _, rfl, h1, h2⟩
/-- is_calc: depth n at most -/
def spCalc (K : PySem.W.Frag) (n : Nat) : Sp := fun vs H Q _ => ∃ v d, vs = [v] ∧ Dp K H v d ∧ okD d = true ∧ d.depth ≤ n ∧ ∀ H', Same H H' → Q (.bl (isCalcD d)) H'
theorem ok_iscalc (T : Tp K w mg) : ∀ n, FnOk P w K mg base CX0 (n + 1 + 1) T.f_iscalc T.fd_iscalc ["thing"] (spCalc K n) := rec_fn fun n ih => by
  refine T.D_iscalc.F.ok sc_iscalc (fun vs H Q E h => ?_) (fun cdv A outer s H vs Q E hr h => ?_)
  · obtain ⟨v, d, rfl, _⟩ := h
    rfl
  · obtain ⟨v, d, rfl, hd, hk, hdep, q⟩ := h
    refine ⟨_, (pss_cons (ps_if (pt_not (pt_val (pe_callB call_isi (by rfl) T.isinstance (by decide +kernel) (pa_cons (pv 0) (pa_cons (pe_bltn (v := .ty "tuple") (by rfl) T.tuple (by decide +kernel) rfl) pa_nil)))))
  (pss_one (ps_ret (pe_or (pcall T.D_isnum (ok_isnum T) (hr.mono (by omega)) (by rfl) (pa_cons (pv 0) pa_nil)) (pe_one (pcall T.D_isname (ok_isname T) (hr.mono (by omega)) (by rfl) (pa_cons (pv 0) pa_nil))))))
  pss_nil)
  (pss_cons (ps_if (PW.pt (pw_or (pt_cmpR op_ne (pe_callB call_len_seq (by rfl) T.len PySem.boot_len (pa_cons (pv 0) pa_nil)) pe_int (nomark _)) (pw_or (pt_not (pt_val (pe_callB call_isi (by rfl) T.isinstance (by decide +kernel) (pa_cons (pe_ix ix_tup (pv 0) pe_int (fun _ _ => rfl)) (pa_cons (pe_bltn (v := .ty "str") (by rfl) T.str (by decide +kernel) rfl) pa_nil))))) (pw_or1 (pt_cmpR op_notIn_seq (pe_ix ix_tup (pv 0) pe_int (fun _ _ => rfl)) (pe_gr (by rfl) T.c_KINDS) (by rfl))))))
  (pss_one (ps_ret pe_bl))
  pss_nil)
  (pss_one (ps_ret (pe_and (pcall T.D_iscalc ih (hr.mono (by omega)) (by rfl) (pa_cons (pe_ix ix_tup (pv 0) pe_int (fun _ _ => rfl)) pa_nil)) (pe_one (pcall T.D_iscalc ih (hr.mono (by omega)) (by rfl) (pa_cons (pe_ix ix_tup (pv 0) pe_int (fun _ _ => rfl)) pa_nil)))))))), ?_⟩
    obtain ⟨ty, kin⟩ := dp_ty hd
    refine ⟨_, rfl, _, _, _, _, _, rfl, .ty "tuple", ty, kit_dat (by decide) kin, _, rfl, ?_⟩
    by_cases ht : kindD d = "tuple"
    · refine ite0 (by rw [decide_eq_true ht]; rfl) ?_
      obtain ⟨ds, rfl⟩ : ∃ ds, d = .tuple ds := by cases d <;> simp [kindD] at ht ⊢
      obtain ⟨a, xs, rfl, hx, hall⟩ := dp_tup hd
      have hl := dpAll_len hall
      refine ⟨_, rfl, _, _, rfl, .inr hx, rfl, _, rfl, ?_⟩
      by_cases h3 : ds.length = 3
      · refine ite0 (by rw [hl, h3]; rfl) ?_
        obtain ⟨d1, d2, d3, rfl⟩ : ∃ d1 d2 d3, ds = [d1, d2, d3] := by
          match ds, h3 with
          | [d1, d2, d3], _ => exact ⟨_, _, _, rfl⟩
        cases hall with
        | cons p1 hall =>
        cases hall with
        | cons p2 hall =>
        cases hall with
        | cons p3 hall =>
        cases hall
        rename_i v1 v2 v3
        have ok3 : okD d1 = true ∧ okD d2 = true ∧ okD d3 = true := by
          simp only [okD, okAll, Bool.and_eq_true] at hk
          exact ⟨hk.2.1, hk.2.2.1, hk.2.2.2.1⟩
        have dep3 : d2.depth + 1 ≤ n ∧ d3.depth + 1 ≤ n := by
          simp only [PyData.depth, PyData.depthAll] at hdep
          omega
        obtain ⟨ty1, kin1⟩ := dp_ty p1
        refine ⟨_, rfl, _, _, _, _, rfl, rfl, hx, atI_nat (j := 0) rfl, _, _, _, _, _, rfl, .ty "str", ty1, kit_dat (by decide) kin1, _, rfl, ?_⟩
        by_cases hs : kindD d1 = "str"
        · obtain ⟨k, rfl⟩ : ∃ k, d1 = .str k := by cases d1 <;> simp [kindD] at hs ⊢
          cases p1
          refine ite0 (by rw [decide_eq_true hs]; rfl) ?_
          refine ⟨_, rfl, _, _, _, _, rfl, rfl, hx, atI_nat (j := 0) rfl, _, _, rfl, .inr (T.t_KINDS H), rfl, rfl, _, rfl, ?_⟩
          have ein : (if true = true then !inV (.str k) [.str "sum", .str "minus", .str "less"] else inV (.str k) [.str "sum", .str "minus", .str "less"]) = !decide (k = "sum" ∨ k = "minus" ∨ k = "less") := by
            rw [if_pos rfl, kinds_in]
          by_cases hkd : k = "sum" ∨ k = "minus" ∨ k = "less"
          · refine ite0 (ein.trans (by rw [decide_eq_true hkd]; rfl)) ?_
            obtain ⟨m, rfl⟩ : ∃ m, n = m + 1 := ⟨n - 1, by omega⟩
            have ec : isCalcD (.tuple [.str k, d2, d3]) = (isCalcD d2 && isCalcD d3) := by show (decide _ && _) = _; rw [decide_eq_true hkd, Bool.true_and]
            rw [ec] at q
            refine ⟨_, rfl, _, _, _, _, rfl, rfl, hx, atI_nat (j := 1) rfl, v2, d2, rfl, p2, ok3.2.1, by omega, fun H1 s1 => ⟨_, rfl, ?_⟩⟩
            cases e2 : isCalcD d2 with
            | false => rw [e2] at q; exact iteF (q H1 s1)
            | true =>
              rw [e2] at q
              exact iteT ⟨_, rfl, _, _, _, _, rfl, rfl, s1.sqt hx, atI_nat (j := 2) rfl, v3, d3, rfl, s1.dp p3, ok3.2.2, by omega, fun H2 s2 => q H2 (s1.trans s2)⟩
          · refine ite1 (ein.trans (by rw [decide_eq_false hkd]; rfl)) ?_
            have h2 := q H (Same.refl H)
            rw [show isCalcD (.tuple [.str k, d2, d3]) = false by show (decide _ && _) = false; rw [decide_eq_false hkd]; rfl] at h2
            exact h2
        · refine ite1 (by rw [decide_eq_false hs]; rfl) ?_
          have h2 := q H (Same.refl H)
          rw [show isCalcD (.tuple [d1, d2, d3]) = false by
            show (isKindD d1 && _) = false
            rw [show isKindD d1 = false by cases d1 <;> first | rfl | exact absurd rfl hs]
            rfl] at h2
          exact h2
      · refine ite1 (by rw [hl]; simp; omega) ?_
        have e : isCalcD (.tuple ds) = false := by
          match ds, h3 with
          | [], _ => rfl
          | [_], _ => rfl
          | [_, _], _ => rfl
          | _ :: _ :: _ :: _ :: _, _ => rfl
        have h2 := q H (Same.refl H)
        rw [e] at h2
        exact h2
    · refine ite1 (by rw [decide_eq_false ht]; rfl) ?_
      have ec : isCalcD d = (isNumD d || isNameD d) := by
        cases d <;> first | rfl | exact absurd rfl ht
      rw [ec] at q
      refine ⟨_, rfl, v, d, rfl, hd, hk, fun H1 s1 => ⟨_, rfl, ?_⟩⟩
      cases e1 : isNumD d with
      | true => rw [e1] at q; exact iteT (q H1 s1)
      | false => rw [e1] at q; exact iteF ⟨_, rfl, v, d, rfl, s1.dp hd, hk, fun H2 s2 => q H2 (s1.trans s2)⟩
end
end TP
namespace TP
open PySem PySem.Spec PyProof.Rows L2 HX HB HG HU HH HD HS
/-! ### the table of parts -/
def partsL : List (Str × List Str) := [("put", ["name", "calc"]), ("read", ["name", "cell"]), ("write", ["cell", "calc"]), ("tell", ["calc"]), ("send", ["channel", "calc"]), ("take", ["name", "channel"]), ("hold", ["lock", "body"]), ("rest", ["rest"]), ("nest", ["scope", "body"]),
  ("within", ["span", "scope", "body"]), ("start", ["home", "body"]), ("off", ["entered"]), ("shield", ["body"]), ("fail", ["name"]), ("catch", ["body", "name", "body"]), ("try", ["body", "body"]), ("if", ["calc", "body", "body"]), ("often", ["times", "body"])]
def kindsOf (w : Str) : Option (List Str) := (partsL.find? fun q => decide (q.1 = w)).map (·.2)
theorem kindsOf_mem {w : Str} {ks : List Str} (h : kindsOf w = some ks) : (w, ks) ∈ partsL := by
  unfold kindsOf at h
  cases e : partsL.find? fun q => decide (q.1 = w) with
  | none => rw [e] at h; cases h
  | some q =>
    rw [e] at h
    cases h
    have h1 := List.mem_of_find?_eq_some e
    have h2 : q.1 = w := by have := List.find?_some e; simpa using this
    rw [← h2]
    exact h1
theorem kinds_len {w : Str} {ks : List Str} (h : kindsOf w = some ks) : ks.length ≤ 3 := by
  have h1 := kindsOf_mem h
  have : ∀ q ∈ partsL, q.2.length ≤ 3 := by decide
  exact this _ h1
def bodiesV {α : Type} : List Str → List α → List α
  | k :: ks, x :: xs => if k = "body" then x :: bodiesV ks xs else bodiesV ks xs
  | _, _ => []
theorem bodiesV_snoc {α : Type} (k : Str) (x : α) : ∀ (ks : List Str) (xs : List α), ks.length = xs.length → bodiesV (ks ++ [k]) (xs ++ [x]) = bodiesV ks xs ++ (if k = "body" then [x] else [])
  | [], [], _ => by
    simp only [List.nil_append, bodiesV]
  | a :: ks, b :: xs, h => by
    have ih := bodiesV_snoc k x ks xs (Nat.succ.inj h)
    simp only [List.cons_append, bodiesV, ih]
    split <;> rfl
theorem bodiesV_len {α : Type} : ∀ (ks : List Str) (xs : List α), (bodiesV ks xs).length ≤ ks.length
  | [], _ => Nat.zero_le _
  | k :: ks, [] => Nat.zero_le _
  | k :: ks, x :: xs => by
    have ih := bodiesV_len ks xs
    simp only [bodiesV, List.length_cons]
    split
    · rw [List.length_cons]; omega
    · omega
theorem bodiesV_cut {α : Type} : ∀ (ks : List Str) (xs : List α), bodiesV (ks.take (min ks.length xs.length)) (xs.take (min ks.length xs.length)) = bodiesV ks xs
  | [], xs => by simp [bodiesV]
  | k :: ks, [] => by simp [bodiesV]
  | k :: ks, x :: xs => by
    have ih := bodiesV_cut ks xs
    rw [List.length_cons, List.length_cons, show min (ks.length + 1) (xs.length + 1) = min ks.length xs.length + 1 by omega, List.take_succ_cons, List.take_succ_cons]
    simp only [bodiesV, ih]
theorem cut1 (xs : List V) : cutV xs (some 1) none = xs.drop 1 := by
  unfold cutV
  rw [show HT.sIx xs.length 0 (some 1) = min 1 xs.length from HT.sIx_nat xs.length 0 1, HT.sIx_none]
  cases xs with
  | nil => rfl
  | cons x r =>
    rw [show min 1 (x :: r).length = 1 by
      rw [List.length_cons]
      omega]
    show (List.take ((x :: r).length - 1) r) = r
    rw [List.length_cons, Nat.add_sub_cancel]
    exact List.take_length
section
variable {P : Program} {w : World} {K : PySem.W.Frag} {mg : Str → Option Value} {base : Heap}
def partsV : List (Str × List V) := partsL.map fun q => (q.1, q.2.map V.str)
theorem Tp.parts (T : Tp K w mg) : DT K w T.a_PARTS partsV := T.d_PARTS
theorem partsV_mem {z : Str} {ks : List Str} (h : kindsOf z = some ks) : (z, ks.map V.str) ∈ partsV := List.mem_map.mpr ⟨(z, ks), kindsOf_mem h, rfl⟩
def spBodies (K : PySem.W.Frag) : Sp := fun vs H Q _ => ∃ (a : Addr) (z : Str) (ks : List Str) (xs : List V), vs = [.ref a] ∧ SqT K H a (.str z :: xs) ∧ kindsOf z = some ks ∧ ∀ (p : Addr) (H' : Hp), H p = none → Same H H' → H' p = some (.lst (bodiesV ks xs)) → Q (.ref p) H'
theorem ok_bodies (T : Tp K w mg) : FnOk P w K mg base CX0 1 T.f_bodies T.fd_bodies ["row"] (spBodies K) := by
  refine T.D_bodies.F.ok sc_bodies (fun vs H Q E h => ?_) (fun cdv A outer s H vs Q E hr h => ?_)
  · obtain ⟨a, z, ks, xs, rfl, _⟩ := h
    rfl
  · obtain ⟨a, z, ks, xs, rfl, hx, hz, q⟩ := h
    refine ⟨_, (pss_one (ps_ret (pe_lc (own := [("kind", 1), ("part", 2)]) (g := gTup K 2 (gCons (gName 1) (gCons (gName 2) gNil))) (by rfl) sc_bodies.nd (RZ.pi_zipA (by rfl) T.zip (pa_cons (pe_ix (HD.ix_dt T.d_PARTS) (pe_gr (by rfl) T.c_PARTS) (pe_ix ix_tup (pv 0) pe_int (fun _ _ => rfl)) (fun _ _ => rfl)) (pa_cons (pe_slice sl_tup (pv 0) (po_some pe_int) po_none) pa_nil))) (blkOk_by (own := [("kind", 1), ("part", 2)]) (N := ["row", "kind", "part"]) (sc := defScope s_bodies) (by decide +kernel)) (fun _ _ _ _ _ => (pg_tup rfl (pgs_cons (pg_name (i := 1) sc_bodies.nd rfl (.inl rfl)) (pgs_cons (pg_name (i := 2) sc_bodies.nd rfl (.inl rfl)) pgs_nil)))) (fun _ _ _ _ _ => (pts_one (pt_cmpR op_eq (pv 1) pe_str (nomark _)))) (fun _ _ _ _ _ => (pv 2))))), ?_⟩
    refine ⟨_, rfl, _, _, _, _, rfl, rfl, hx, atI_nat (j := 0) rfl, _, partsV_mem hz, rfl, rfl, fun t ht => ?_⟩
    refine ⟨_, rfl, 1, rfl, a, _, rfl, hx, ?_, fun p np => ?_⟩
    · rw [show HT.sIx (V.str z :: xs).length 0 (some 1) = min 1 (V.str z :: xs).length from HT.sIx_nat _ 0 1, List.length_cons]
      omega
    rw [cut1]
    have s1 := same_upd (o := .tup ((V.str z :: xs).drop 1)) np
    have hp : (upd H p (.tup ((V.str z :: xs).drop 1))) p = some (.tup xs) := upd_same
    generalize upd H p (.tup ((V.str z :: xs).drop 1)) = H1 at s1 hp ⊢
    refine ⟨t, p, _, _, rfl, .inr ⟨ht H1, stt hp, fun L nL => ?_⟩⟩
    refine lc_it (HE.walk_zipT (xs := ks.map V.str) (ys := xs) (n := min ks.length xs.length) (by rw [List.length_map])) (fun i H2 => Same H1 H2 ∧ H2 L = some (.lst (bodiesV (ks.take i) (xs.take i)))) ⟨same_upd nL, upd_same⟩ (fun i H2 _ g => ⟨ht H2, stt (g.1 _ _ hp)⟩) ?_ ?_
    · rintro i x H2 H3 hi ⟨sm, hL⟩ ⟨Tt, x1, x2, rfl, nT, rfl, g1, g2⟩
      have h1 : i < ks.length := by omega
      have h2 : i < xs.length := by omega
      dsimp only at g1 g2
      rw [List.getElem?_map, List.getElem?_eq_getElem h1] at g1
      rw [List.getElem?_eq_getElem h2] at g2
      cases g1
      cases g2
      have smT := same_upd (o := .tup [.str ks[i], xs[i]]) nT
      have e : bodiesV (ks.take (i + 1)) (xs.take (i + 1)) = bodiesV (ks.take i) (xs.take i) ++ (if ks[i] = "body" then [xs[i]] else []) := by
        rw [List.take_add_one, List.take_add_one, List.getElem?_eq_getElem h1, List.getElem?_eq_getElem h2]
        exact bodiesV_snoc _ _ _ _ (by rw [List.length_take, List.length_take]; omega)
      refine ⟨Tt, _, rfl, stt upd_same, rfl, _, _, rfl, _, _, rfl, rfl, rfl, _, rfl, rfl, _, rfl, ite2 (fun hb => ?_) (fun hb => ?_)⟩
      · have hb : ks[i] = "body" := V.str.inj (of_decide_eq_true hb)
        refine ⟨_, rfl, _, smT _ _ hL, small1000 (Nat.le_trans (bodiesV_len _ _) (by rw [List.length_take]; have := kinds_len hz; omega)), (sm.trans smT).own nL, ?_⟩
        rw [upd_same, e, if_pos hb]
      · have hb : ks[i] ≠ "body" := fun z => hb (decide_eq_true (by rw [z]))
        refine ⟨sm.trans smT, ?_⟩
        rw [e, if_neg hb, List.append_nil]
        exact smT _ _ hL
    · rintro H2 ⟨sm, hL⟩
      rw [bodiesV_cut] at hL
      exact q L H2 (s1.free nL) (s1.trans sm) hL
end
end TP
namespace TP
open PySem PySem.Spec PyProof.Rows L2 HX HB HG HU HH HD HS
/-- what is known: the names of the cells, locks, channels -/
structure Kn (K : PySem.W.Frag) (H : Hp) (kn : Addr) (cs ls hs : List Str) : Prop where
  ex : ∃ c l h : Addr, H kn = some (.dK [(Sum.inr "cell", .ref c), (Sum.inr "lock", .ref l), (Sum.inr "channel", .ref h)]) ∧ SqT K H c (cs.map V.str) ∧ SqT K H l (ls.map V.str) ∧ SqT K H h (hs.map V.str)
/-- what is around: names and words -/
structure Ar (K : PySem.W.Frag) (H : Hp) (ar : Addr) (ps : List (Str × Str)) : Prop where
  ex : ∃ ts : List Addr, SqT K H ar (ts.map V.ref) ∧ Paired (fun t (p : Str × Str) => SqT K H t [.str p.1, .str p.2]) ts ps
  few : ps.length ≤ 1000
theorem Kn.same {K : PySem.W.Frag} {H H' : Hp} {kn : Addr} {cs ls hs : List Str} (k : Kn K H kn cs ls hs) (s : Same H H') : Kn K H' kn cs ls hs := let ⟨c, l, h, e1, e2, e3, e4⟩ := k.ex; ⟨c, l, h, s _ _ e1, s.sqt e2, s.sqt e3, s.sqt e4⟩
theorem Ar.same {K : PySem.W.Frag} {H H' : Hp} {ar : Addr} {ps : List (Str × Str)} (k : Ar K H ar ps) (s : Same H H') : Ar K H' ar ps := ⟨let ⟨ts, e1, e2⟩ := k.ex; ⟨ts, s.sqt e1, paired_imp (fun _ _ h => s.sqt h) e2⟩, k.few⟩
def rangesL : List (Str × (Int × Int)) := [("rest", (0, 9)), ("span", (1, 9)), ("times", (0, 3))]
def rangesV : List (Str × List V) := rangesL.map fun q => (q.1, [V.int q.2.1, V.int q.2.2])
def rangeOf (k : Str) : Option (Int × Int) := (rangesL.find? fun q => decide (q.1 = k)).map (·.2)
theorem rangeOf_mem {k : Str} {r : Int × Int} (h : rangeOf k = some r) : (k, r) ∈ rangesL := by
  unfold rangeOf at h
  cases e : rangesL.find? fun q => decide (q.1 = k) with
  | none => rw [e] at h; cases h
  | some q =>
    rw [e] at h
    cases h
    have h2 : q.1 = k := by have := List.find?_some e; simpa using this
    rw [← h2]
    exact List.mem_of_find?_eq_some e
theorem rangeOf_none {k : Str} (h : rangeOf k = none) : k ∉ rangesV.map (·.1) := by
  intro hm
  obtain ⟨q, hq, rfl⟩ := List.mem_map.mp hm
  obtain ⟨p, hp, rfl⟩ := List.mem_map.mp hq
  unfold rangeOf at h
  cases e : rangesL.find? fun q => decide (q.1 = p.1) with
  | none => exact absurd (List.find?_eq_none.mp e p hp) (by simp)
  | some x => rw [show (fun q : Str × (Int × Int) => decide (q.1 = (p.1, [V.int p.2.1, V.int p.2.2]).1)) = fun q => decide (q.1 = p.1) from rfl, e] at h; cases h
def lookW (ps : List (Str × Str)) (z : Str) : Option Str := lookS (mergeZ [] ps) z
def inRange (d : PyData) (r : Int × Int) : Bool := match d with
  | .int i => decide (r.1 ≤ i) && decide (i ≤ r.2)
  | _ => false
def namePart (kind z : Str) (cs ls hs : List Str) (ps : List (Str × Str)) : Bool :=
  if kind = "cell" then decide (z ∈ cs) else if kind = "lock" then decide (z ∈ ls) else if kind = "channel" then decide (z ∈ hs)
  else if kind = "home" then decide (lookW ps z = some ("nest" : Str))
  else decide (kind = "name") || decide ((lookW ps z).isSome = decide (kind = "entered"))
def strPart (d : PyData) (f : Str → Bool) : Bool := match d with
  | .str z => isNameL z && f z
  | _ => false
def isPartD (cs ls hs : List Str) (ps : List (Str × Str)) (kind : Str) (d : PyData) : Bool :=
  if kind = "calc" then isCalcD d else if kind = "body" then decide (kindD d = "tuple")
  else match rangeOf kind with
    | some r => inRange d r
    | none => strPart d fun z => namePart kind z cs ls hs ps
theorem inV_strs (z : Str) : ∀ zs : List Str, inV (.str z) (zs.map V.str) = decide (z ∈ zs)
  | [] => by simp [inV]
  | y :: zs => by
    have ih := inV_strs z zs
    show (eqV (.str y) (.str z) || inV (.str z) (zs.map V.str)) = _
    rw [ih]
    simp only [eqV, List.mem_cons, Bool.decide_or]
    congr 1
    by_cases h : z = y
    · subst h; simp
    · rw [decide_eq_false h]; exact beq_eq_false_iff_ne.mpr (Ne.symm h)
theorem flat_strs : ∀ zs : List Str, (zs.map V.str).all flatV = true
  | [] => rfl
  | z :: zs => by rw [List.map_cons, List.all_cons, flat_strs zs]; rfl
theorem es_str (y z : Str) : decide (V.str y = V.str z) = decide (y = z) := decide_eq_decide.mpr ⟨fun h => V.str.inj h, fun h => congrArg V.str h⟩
section
variable {P : Program} {w : World} {K : PySem.W.Frag} {mg : Str → Option Value} {base : Heap}
theorem Tp.ranges (T : Tp K w mg) : DT K w T.a_RANGES rangesV := T.d_RANGES
def spPart (K : PySem.W.Frag) (n : Nat) : Sp := fun vs H Q _ => ∃ (kind : Str) (v : V) (d : PyData) (kn ar : Addr) (cs ls hs : List Str) (ps : List (Str × Str)), vs = [.str kind, v, .ref kn, .ref ar] ∧ Dp K H v d ∧ okD d = true ∧ d.depth ≤ n ∧ Kn K H kn cs ls hs ∧ Ar K H ar ps ∧
  ∀ H', Same H H' → Q (.bl (isPartD cs ls hs ps kind d)) H'
theorem ok_ispart (T : Tp K w mg) (n : Nat) : FnOk P w K mg base CX0 (n + 1 + 1 + 1) T.f_ispart T.fd_ispart ["kind", "thing", "known", "around"] (spPart K n) := by
  refine T.D_ispart.F.ok sc_ispart (fun vs H Q E h => ?_) (fun cdv A outer s H vs Q E hr h => ?_)
  · obtain ⟨kind, v, d, kn, ar, cs, ls, hs, ps, rfl, _⟩ := h
    rfl
  · obtain ⟨kind, v, d, kn, ar, cs, ls, hs, ps, rfl, hd, hk, hdep, hkn, har, q⟩ := h
    have hu := hu_of hr
    refine ⟨_, (pss_cons (ps_if (pt_cmpR op_eq (pv 0) pe_str (nomark _))
  (pss_one (ps_ret (pcall T.D_iscalc (ok_iscalc T n) (hr.mono (by omega)) (by rfl) (pa_cons (pv 1) pa_nil))))
  pss_nil)
  (pss_cons (ps_if (pt_cmpR op_eq (pv 0) pe_str (nomark _))
  (pss_one (ps_ret (pe_callB call_isi (by rfl) T.isinstance (by decide +kernel) (pa_cons (pv 1) (pa_cons (pe_bltn (v := .ty "tuple") (by rfl) T.tuple (by decide +kernel) rfl) pa_nil)))))
  pss_nil)
  (pss_cons (ps_if (pt_cmpR (HD.op_in_dt T.d_RANGES) (pv 0) (pe_gr (by rfl) T.c_RANGES) (by rfl))
  (pss_cons (ps_asg (pe_ix (HD.ix_dt T.d_RANGES) (pe_gr (by rfl) T.c_RANGES) (pv 0) (fun _ _ => rfl)) (pg_tup rfl (pgs_cons (pg_name (i := 4) sc_ispart.nd rfl (.inl rfl)) (pgs_cons (pg_name (i := 5) sc_ispart.nd rfl (.inl rfl)) pgs_nil))))
  (pss_one (ps_ret (pe_and (pcall T.D_isnum (ok_isnum T) (hr.mono (by omega)) (by rfl) (pa_cons (pv 1) pa_nil)) (pe_one (pe_chain op_le op_le (pv 4) (pv 1) (pv 5)))))))
  pss_nil)
  (pss_cons (ps_if (pt_not (pt_val (pcall T.D_isname (ok_isname T) (hr.mono (by omega)) (by rfl) (pa_cons (pv 1) pa_nil))))
  (pss_one (ps_ret pe_bl))
  pss_nil)
  (pss_cons (ps_if (pt_cmp (pc_din hu (pv 0) (pv 2)))
  (pss_one (ps_ret (pe_cmpR op_in_seq (pv 1) (pe_dget hu (pv 2) (pv 0) (fun _ _ => rfl)) (by rfl))))
  pss_nil)
  (pss_cons (HD.ps_setDc (i := 6) (own := [("name", 7), ("word", 8)]) (g := gTup K 2 (gCons (gName 7) (gCons (gName 8) gNil))) (by rfl) sc_ispart.nd rfl rfl (HD.sw_dict rfl rfl rfl (by decide +kernel)) (pi_tup (pv 3)) (blkOk_by (own := [("name", 7), ("word", 8)]) (N := ["kind", "thing", "known", "around", "least", "most", "words", "name", "word"]) (sc := defScope s_ispart) (by decide +kernel)) (fun _ _ _ _ _ => (pg_tup rfl (pgs_cons (pg_name (i := 7) sc_ispart.nd rfl (.inl rfl)) (pgs_cons (pg_name (i := 8) sc_ispart.nd rfl (.inl rfl)) pgs_nil)))) (fun _ _ _ _ _ => pts_nil) (fun _ _ _ _ _ => (pv 7)) (fun _ _ _ _ _ => (pv 8)))
  (pss_cons (ps_if (pt_cmpR op_eq (pv 0) pe_str (nomark _))
  (pss_one (ps_ret (pe_cmpR op_eq (pe_dget1 hu (pv 6) (pv 1) ⟨by rfl, by rfl, by rfl, by rfl⟩) pe_str (nomark _))))
  pss_nil)
  (pss_one (ps_ret (pe_or (pe_cmpR op_eq (pv 0) pe_str (nomark _)) (pe_one (pe_cmpR op_eq (pe_cmp (pc_din hu (pv 1) (pv 6))) (pe_cmpR op_eq (pv 0) pe_str (nomark _)) (nomark _))))))))))))), ?_⟩
    obtain ⟨ty, kin⟩ := dp_ty hd
    refine ⟨_, rfl, rfl, _, rfl, ?_⟩
    rw [es_str]
    refine ite2 (fun h1 => ?_) (fun h1 => ?_)
    · have e : isPartD cs ls hs ps kind d = isCalcD d := by unfold isPartD; rw [if_pos (of_decide_eq_true h1)]
      rw [e] at q
      exact ⟨_, rfl, v, d, rfl, hd, hk, hdep, q⟩
    have n1 : kind ≠ "calc" := fun z => h1 (decide_eq_true z)
    refine ⟨_, rfl, rfl, _, rfl, ?_⟩
    rw [es_str]
    refine ite2 (fun h2 => ?_) (fun h2 => ?_)
    · have e : isPartD cs ls hs ps kind d = decide (kindD d = "tuple") := by unfold isPartD; rw [if_neg n1, if_pos (of_decide_eq_true h2)]
      rw [e] at q
      exact ⟨_, rfl, _, _, _, _, _, rfl, .ty "tuple", ty, kit_dat (by decide) kin, q H (Same.refl H)⟩
    have n2 : kind ≠ "body" := fun z => h2 (decide_eq_true z)
    have up : isPartD cs ls hs ps kind d = match rangeOf kind with
        | some r => inRange d r
        | none => strPart d fun z => namePart kind z cs ls hs ps := by unfold isPartD; rw [if_neg n1, if_neg n2]
    rw [up] at q
    cases hr : rangeOf kind with
    | some r =>
      rw [hr] at q
      dsimp only at q
      have hm := rangeOf_mem hr
      have hmV : (kind, [V.int r.1, V.int r.2]) ∈ rangesV := List.mem_map.mpr ⟨(kind, r), hm, rfl⟩
      refine ⟨_, rfl, kind, rfl, rfl, _, rfl, ite1 (show decide (kind ∈ rangesV.map (·.1)) = true from decide_eq_true (List.mem_map.mpr ⟨_, hmV, rfl⟩)) ?_⟩
      refine ⟨_, rfl, _, hmV, rfl, rfl, fun t ht => ⟨t, _, rfl, ht H, rfl, _, _, rfl, _, _, rfl, rfl, ?_⟩⟩
      refine ⟨_, rfl, v, d, rfl, hd, hk, fun H1 s1 => ⟨_, rfl, ?_⟩⟩
      by_cases hi : ∃ i, d = .int i
      · obtain ⟨i, rfl⟩ := hi
        cases hd
        refine iteT ⟨_, rfl, _, rfl, _, _, rfl, rfl, _, rfl, ?_⟩
        have q := q H1 s1
        refine ite2 (fun h => ?_) (fun h => ?_)
        · refine ⟨_, rfl, _, _, rfl, rfl, ?_⟩
          rw [show inRange (.int i) r = decide (i ≤ r.2) by show (decide _ && _) = _; rw [h, Bool.true_and]] at q
          exact q
        · rw [show inRange (.int i) r = false by show (decide _ && _) = _; rw [Bool.eq_false_iff.mpr h, Bool.false_and]] at q
          exact q
      · have e1 : isNumD d = false := by cases d <;> first | rfl | exact absurd ⟨_, rfl⟩ hi
        have e2 : inRange d r = false := by cases d <;> first | rfl | exact absurd ⟨_, rfl⟩ hi
        rw [e1]
        rw [e2] at q
        exact iteF (q H1 s1)
    | none =>
      rw [hr] at q
      dsimp only at q
      refine ⟨_, rfl, kind, rfl, rfl, _, rfl, ite0 (show decide (kind ∈ rangesV.map (·.1)) = false from decide_eq_false (rangeOf_none hr)) ?_⟩
      refine ⟨_, rfl, v, d, rfl, hd, hk, fun H1 s1 => ⟨_, rfl, ?_⟩⟩
      by_cases hn : isNameD d = true
      · obtain ⟨z, rfl⟩ : ∃ z, d = .str z := by cases d <;> first | exact ⟨_, rfl⟩ | cases hn
        cases hd
        refine ite0 (by rw [hn]; rfl) ?_
        have hn' : isNameL z = true := hn
        have q2 : ∀ H', Same H H' → Q (.bl (namePart kind z cs ls hs ps)) H' := fun H' s' => by
          have h := q H' s'
          rw [show (strPart (.str z) fun z => namePart kind z cs ls hs ps) = namePart kind z cs ls hs ps by show (isNameL z && _) = _; rw [hn', Bool.true_and]] at h
          exact h
        clear q up
        obtain ⟨c, l, h, k1, k2, k3, k4⟩ := (hkn.same s1).ex
        have g := DGet.k (k := Sum.inr kind) k1
        have seq : ∀ (a : Addr) (xs : List Str), SqT K H1 a (xs.map V.str) → Q (.bl (decide (z ∈ xs))) H1 → rIn K false (.str z) (.ref a) H1 Q := fun a xs h1 h2 => ⟨a, _, rfl, .inr h1, rfl, flat_strs xs, by rw [if_neg Bool.false_ne_true, inV_strs]; exact h2⟩
        refine ⟨_, rfl, _, rfl, kn, _, rfl, g, _, rfl, ?_⟩
        by_cases c1 : kind = "cell"
        · subst c1
          refine iteT ⟨_, rfl, _, rfl, _, rfl, kn, _, rfl, g, seq c cs k2 ?_⟩
          exact q2 H1 s1
        by_cases c2 : kind = "lock"
        · subst c2
          refine iteT ⟨_, rfl, _, rfl, _, rfl, kn, _, rfl, g, seq l ls k3 ?_⟩
          exact q2 H1 s1
        by_cases c3 : kind = "channel"
        · subst c3
          refine iteT ⟨_, rfl, _, rfl, _, rfl, kn, _, rfl, g, seq h hs k4 ?_⟩
          exact q2 H1 s1
        have miss : valV [((Sum.inr "cell" : Key), V.ref c), (Sum.inr "lock", .ref l), (Sum.inr "channel", .ref h)] (Sum.inr kind : Key) = none := by
          unfold valV
          simp only [List.find?_cons, key_rr]
          rw [decide_eq_false (Ne.symm c1), decide_eq_false (Ne.symm c2), decide_eq_false (Ne.symm c3)]
          rfl
        rw [miss]
        refine iteF ?_
        have en : namePart kind z cs ls hs ps = if kind = "home" then decide (lookW ps z = some ("nest" : Str)) else decide (kind = "name") || decide ((lookW ps z).isSome = decide (kind = "entered")) := by
          unfold namePart
          rw [if_neg c1, if_neg c2, if_neg c3]
        rw [en] at q2
        -- the words
        obtain ⟨ts, a1, a2⟩ := (har.same s1).ex
        have tl : ts.length = ps.length := a2.length
        refine ⟨_, rfl, ar, rfl, ⟨_, a1⟩, fun D nD => dc_tup (xs := ts.map V.ref) (fun i H2 => Same H1 H2 ∧ H2 D = some (.dK (dz (mergeZ [] (ps.take i))))) ⟨same_upd nD, upd_same⟩ (fun i H2 _ g => g.1.sqt a1) ?_ ?_⟩
        · rintro i x H2 hx ⟨sm, hD⟩
          have hi : i < ts.length := by
            have := (List.getElem?_eq_some_iff.mp hx).1
            rwa [List.length_map] at this
          rw [List.getElem?_map, List.getElem?_eq_getElem hi] at hx
          cases hx
          obtain ⟨p, e1, e2⟩ := paired_at a2 (List.getElem?_eq_getElem hi)
          have tk : ps.take (i + 1) = ps.take i ++ [p] := by rw [List.take_add_one, e1]; rfl
          refine ⟨_, _, rfl, sm.sqt e2, rfl, _, _, rfl, _, _, rfl, rfl, rfl, ?_⟩
          refine ⟨_, rfl, _, rfl, _, Sum.inr p.1, rfl, hD, ?_, sm.own nD, ?_⟩
          · rw [dz, List.length_map]
            refine Evl.sz_lt (Nat.lt_of_le_of_lt (mergeZ_len _ _) ?_)
            have := har.few
            rw [List.length_nil, List.length_take]
            omega
          · rw [upd_same, putZ_dz, tk]
            unfold mergeZ
            rw [List.foldl_append]
            rfl
        · rintro H2 ⟨sm, hD⟩
          rw [List.length_map, tl, List.take_length] at hD
          have gz := DGet.k (k := Sum.inr z) hD
          rw [lookS_val] at gz
          refine ⟨_, rfl, rfl, _, rfl, ?_⟩
          rw [es_str]
          refine ite2 (fun hh => ?_) (fun hh => ?_)
          · rw [if_pos (of_decide_eq_true hh)] at q2
            refine ⟨_, rfl, D, rfl, .inl ⟨_, .inl hD⟩, _, rfl, _, gz, ?_⟩
            have q3 := q2 H2 (s1.trans sm)
            unfold lookW at q3
            cases e : lookS (mergeZ [] ps) z with
            | none => rw [e] at q3; exact ⟨rfl, q3⟩
            | some y =>
              rw [e] at q3
              refine ⟨rfl, ?_⟩
              rw [show decide (some y = some ("nest" : Str)) = decide (y = "nest") from decide_eq_decide.mpr ⟨fun h => Option.some.inj h, fun h => congrArg some h⟩] at q3
              show Q (V.bl (decide (V.str y = V.str "nest"))) H2
              rw [es_str]
              exact q3
          · rw [if_neg (fun e => hh (decide_eq_true e))] at q2
            have q3 := q2 H2 (s1.trans sm)
            refine ⟨_, rfl, rfl, _, rfl, ?_⟩
            rw [es_str]
            refine ite2 (fun h5 => ?_) (fun h5 => ?_)
            · rw [h5] at q3; exact q3
            · rw [Bool.eq_false_iff.mpr h5, Bool.false_or] at q3
              refine ⟨_, rfl, _, rfl, D, _, rfl, gz, _, rfl, rfl, rfl, ?_⟩
              rw [es_str, Option.isSome_map]
              unfold lookW at q3
              have eb : ∀ a b : Bool, decide (V.bl a = V.bl b) = decide (a = b) := fun a b => by cases a <;> cases b <;> rfl
              rw [eb]
              exact q3
      · have e1 : isNameD d = false := Bool.eq_false_iff.mpr hn
        refine ite1 (by rw [e1]; rfl) ?_
        have q := q H1 s1
        have e2 : (strPart d fun z => namePart kind z cs ls hs ps) = false := by
          cases d <;> first | rfl | (show (isNameL _ && _) = false; rw [show isNameL _ = false from e1]; rfl)
        rw [e2] at q
        exact q
end
end TP
namespace TP
open PySem PySem.Spec PyProof.Rows L2 HX HB HG HU HH HD HS
/-! ### rows -/
def isRowD (cs ls hs : List Str) (ps : List (Str × Str)) : PyData → Bool
  | .tuple (.str z :: xs) => match kindsOf z with
    | some ks => decide (xs.length = ks.length) && (ks.zip xs).all fun q => isPartD cs ls hs ps q.1 q.2
    | none => false
  | _ => false
theorem dpAll_at {K : PySem.W.Frag} {H : Hp} : ∀ {xs : List V} {ds : List PyData}, DpAll K H xs ds → ∀ {i : Nat} (h1 : i < xs.length) (h2 : i < ds.length), Dp K H xs[i] ds[i]
  | _, _, .cons p t, 0, _, _ => p
  | _, _, .cons p t, i + 1, h1, h2 => dpAll_at t (Nat.lt_of_succ_lt_succ h1) (Nat.lt_of_succ_lt_succ h2)
theorem depthAll_mem : ∀ {ds : List PyData} {d : PyData}, d ∈ ds → d.depth ≤ PyData.depthAll ds
  | x :: xs, d, h => by
    simp only [PyData.depthAll]
    rcases List.mem_cons.mp h with rfl | h
    · omega
    · have := depthAll_mem h; omega
theorem partsV_key (z : Str) : decide (z ∈ partsV.map (·.1)) = (kindsOf z).isSome := by
  unfold kindsOf partsV
  rw [List.map_map, Option.isSome_map]
  cases e : partsL.find? fun q => decide (q.1 = z) with
  | none =>
    refine decide_eq_false fun h => ?_
    obtain ⟨q, hq, rfl⟩ := List.mem_map.mp h
    exact absurd (List.find?_eq_none.mp e q hq) (by simp)
  | some q =>
    have h2 : q.1 = z := by have := List.find?_some e; simpa using this
    exact decide_eq_true (List.mem_map.mpr ⟨q, List.mem_of_find?_eq_some e, h2⟩)
section
variable {P : Program} {w : World} {K : PySem.W.Frag} {mg : Str → Option Value} {base : Heap}
def spRow (K : PySem.W.Frag) (n : Nat) : Sp := fun vs H Q _ => ∃ (v : V) (d : PyData) (kn ar : Addr) (cs ls hs : List Str) (ps : List (Str × Str)), vs = [v, .ref kn, .ref ar] ∧ Dp K H v d ∧ okD d = true ∧ SeqAt.shaped d = true ∧ d.depth ≤ n ∧ Kn K H kn cs ls hs ∧ Ar K H ar ps ∧
  ∀ H', Same H H' → Q (.bl (isRowD cs ls hs ps d)) H'
theorem ok_isrow (T : Tp K w mg) (n : Nat) : FnOk P w K mg base CX0 (n + 1 + 1 + 1 + 1) T.f_isrow T.fd_isrow ["row", "known", "around"] (spRow K n) := by
  refine T.D_isrow.F.ok sc_isrow (fun vs H Q E h => ?_) (fun cdv A outer s H vs Q E hr h => ?_)
  · obtain ⟨v, d, kn, ar, cs, ls, hs, ps, rfl, _⟩ := h
    rfl
  · obtain ⟨v, d, kn, ar, cs, ls, hs, ps, rfl, hd, hk, hsh, hdep, hkn, har, q⟩ := h
    have hu := hu_of hr
    refine ⟨_, (pss_cons (ps_if (PW.pt (pw_or (pt_not (pt_val (pe_callB call_isi (by rfl) T.isinstance (by decide +kernel) (pa_cons (pv 0) (pa_cons (pe_bltn (v := .ty "tuple") (by rfl) T.tuple (by decide +kernel) rfl) pa_nil))))) (pw_or (pt_cmpR (op_eqD hr.units) (pv 0) (pe_tup pa_nil) (nomark _)) (pw_or (pt_not (pt_val (pe_callB call_isi (by rfl) T.isinstance (by decide +kernel) (pa_cons (pe_ix ix_tup (pv 0) pe_int (fun _ _ => rfl)) (pa_cons (pe_bltn (v := .ty "str") (by rfl) T.str (by decide +kernel) rfl) pa_nil))))) (pw_or1 (pt_cmpR (HD.op_notIn_dt T.d_PARTS) (pe_ix ix_tup (pv 0) pe_int (fun _ _ => rfl)) (pe_gr (by rfl) T.c_PARTS) (by rfl)))))))
  (pss_one (ps_ret pe_bl))
  pss_nil)
  (pss_cons (ps_asg (pv 0) (pg_star (n := 2) (i := 1) rfl (pgs_cons (pg_name (i := 3) sc_isrow.nd rfl (.inl rfl)) (pgs_star (pg_name (i := 4) sc_isrow.nd rfl (.inl rfl)) pgs_nil))))
  (pss_cons (ps_if (pt_cmpR op_ne (pe_callB call_len_seq (by rfl) T.len PySem.boot_len (pa_cons (pv 4) pa_nil)) (pe_callB call_len_seq (by rfl) T.len PySem.boot_len (pa_cons (pe_ix (HD.ix_dt T.d_PARTS) (pe_gr (by rfl) T.c_PARTS) (pv 3) (fun _ _ => rfl)) pa_nil)) (nomark _))
  (pss_one (ps_ret pe_bl))
  pss_nil)
  (pss_one (ps_ret (pe_callB (cr_all rfl) (by rfl) T.all (by decide +kernel) (pa_cons (pe_lc (own := [("kind", 5), ("part", 6)]) (g := gTup K 2 (gCons (gName 5) (gCons (gName 6) gNil))) (by rfl) sc_isrow.nd (HE.pi_zipTL (by rfl) T.zip (pa_cons (pe_ix (HD.ix_dt T.d_PARTS) (pe_gr (by rfl) T.c_PARTS) (pv 3) (fun _ _ => rfl)) (pa_cons (pv 4) pa_nil))) (blkOk_by (own := [("kind", 5), ("part", 6)]) (N := ["row", "known", "around", "word", "parts", "kind", "part"]) (sc := defScope s_isrow) (by decide +kernel)) (fun _ _ _ _ _ => (pg_tup rfl (pgs_cons (pg_name (i := 5) sc_isrow.nd rfl (.inl rfl)) (pgs_cons (pg_name (i := 6) sc_isrow.nd rfl (.inl rfl)) pgs_nil)))) (fun _ _ _ _ _ => pts_nil) (fun _ _ _ _ _ => (pcall T.D_ispart (ok_ispart T n) (hr.mono (by omega)) (by rfl) (pa_cons (pv 5) (pa_cons (pv 6) (pa_cons (pv 1) (pa_cons (pv 2) pa_nil))))))) pa_nil))))))), ?_⟩
    obtain ⟨ty, kin⟩ := dp_ty hd
    refine ⟨_, rfl, _, _, _, _, _, rfl, .ty "tuple", ty, kit_dat (by decide) kin, _, rfl, ?_⟩
    by_cases ht : kindD d = "tuple"
    · refine ite0 (by rw [decide_eq_true ht]; rfl) ?_
      obtain ⟨ds, rfl⟩ : ∃ ds, d = .tuple ds := by cases d <;> simp [kindD] at ht ⊢
      obtain ⟨a, xs, rfl, hx, hall⟩ := dp_tup hd
      have hl := dpAll_len hall
      refine ⟨_, rfl, Nat.zero_le _, fun p np => ?_⟩
      have s1 := same_upd (o := .tup []) np
      have hp : (upd H p (.tup [])) p = some (.tup []) := upd_same
      refine ⟨.tuple ds, .tuple [], s1.dp hd, .tup (stt hp) .nil, hsh, rfl, ?_⟩
      have hx1 := s1.sqt hx
      have hall1 := s1.dpAll hall
      have kn1 := hkn.same s1
      have ar1 := har.same s1
      generalize upd H p (.tup []) = H1 at s1 hx1 hall1 kn1 ar1 ⊢
      cases ds with
      | nil =>
        refine ⟨_, rfl, iteT ?_⟩
        exact q H1 s1
      | cons d0 ds =>
        refine ⟨_, rfl, ite0 rfl ?_⟩
        cases hall1 with
        | cons p0 hall1 =>
        rename_i x0 xs
        obtain ⟨ty0, kin0⟩ := dp_ty p0
        refine ⟨_, rfl, _, _, _, _, rfl, rfl, hx1, atI_nat (j := 0) rfl, _, _, _, _, _, rfl, .ty "str", ty0, kit_dat (by decide) kin0, _, rfl, ?_⟩
        by_cases hs0 : kindD d0 = "str"
        · obtain ⟨z, rfl⟩ : ∃ z, d0 = .str z := by cases d0 <;> simp [kindD] at hs0 ⊢
          cases p0
          refine ite0 (by rw [decide_eq_true hs0]; rfl) ?_
          refine ⟨_, rfl, _, _, _, _, rfl, rfl, hx1, atI_nat (j := 0) rfl, z, rfl, rfl, _, rfl, ?_⟩
          have ek := partsV_key z
          cases ez : kindsOf z with
          | none =>
            rw [ez] at ek
            refine ite1 (show (!decide (z ∈ partsV.map (·.1))) = true by rw [ek]; rfl) ?_
            have h2 := q H1 s1
            rw [show isRowD cs ls hs ps (.tuple (.str z :: ds)) = false by show (match kindsOf z with | some ks => _ | none => _) = false; rw [ez]] at h2
            exact h2
          | some ks =>
            rw [ez] at ek
            refine ite0 (show (!decide (z ∈ partsV.map (·.1))) = false by rw [ek]; rfl) ?_
            have er : isRowD cs ls hs ps (.tuple (.str z :: ds)) = (decide (ds.length = ks.length) && (ks.zip ds).all fun q => isPartD cs ls hs ps q.1 q.2) := by
              show (match kindsOf z with | some ks => _ | none => _) = _
              rw [ez]
            rw [er] at q
            have l1 : xs.length = ds.length := dpAll_len hall1
            have len4 : ds.length ≤ 10000 := by
              simp only [okD, Bool.and_eq_true, decide_eq_true_eq, List.length_cons] at hk
              omega
            refine ⟨_, rfl, a, _, rfl, hx1, by rw [List.length_cons]; omega, by rw [List.length_cons]; omega, fun sp nsp => ?_⟩
            have e1 : List.take ((V.str z :: xs).length + 1 - 2) (List.drop 1 (V.str z :: xs)) = xs := by
              rw [List.length_cons, List.drop_succ_cons, List.drop_zero, show xs.length + 1 + 1 - 2 = xs.length by omega, List.take_length]
            have e2 : List.drop ((V.str z :: xs).length + 1 - 2) (List.drop 1 (V.str z :: xs)) = [] := by
              rw [List.length_cons, List.drop_succ_cons, List.drop_zero, show xs.length + 1 + 1 - 2 = xs.length by omega, List.drop_length]
            rw [e1, e2]
            refine ⟨_, _, rfl, _, _, rfl, rfl, ?_⟩
            have s2 := same_upd (o := .lst xs) nsp
            have hsp : (upd H1 sp (.lst xs)) sp = some (.lst xs) := upd_same
            show tSeq _ _ _ _ (upd H1 sp (.lst xs))
            generalize upd H1 sp (.lst xs) = H2 at s2 hsp ⊢
            have mV := partsV_mem ez
            refine ⟨_, rfl, sp, _, rfl, .inl (sl hsp), _, rfl, _, mV, rfl, rfl, fun t ht => ⟨t, _, rfl, .inr (ht H2), rfl, _, rfl, ?_⟩⟩
            have ei : decide (V.int ((xs.length : Nat) : Int) = V.int ((ks.map V.str).length : Nat)) = decide (ds.length = ks.length) := by
              rw [List.length_map, l1]
              exact decide_eq_decide.mpr ⟨fun h => by have := V.int.inj h; omega, fun h => by rw [h]⟩
            rw [ei]
            by_cases hlen : ds.length = ks.length
            · refine ite0 (by rw [decide_eq_true hlen]; rfl) ?_
              rw [decide_eq_true hlen, Bool.true_and] at q
              refine ⟨_, rfl, _, mV, rfl, rfl, fun t ht => ⟨_, rfl, t, sp, _, _, rfl, ht H2, sl hsp, fun L nL => ?_⟩⟩
              refine lc_it (HE.walk_zipTL (xs := ks.map V.str) (ys := xs) (n := ks.length) (by rw [List.length_map]; omega)) (fun i H3 => Same H2 H3 ∧ H3 L = some (.lst ((((ks.zip ds).take i).map fun q => isPartD cs ls hs ps q.1 q.2).map V.bl))) ⟨same_upd nL, upd_same⟩ (fun i H3 _ g => ⟨ht H3, sl (g.1 _ _ hsp)⟩) ?_ ?_
              · rintro i x H3 H4 hi ⟨sm, hL⟩ ⟨Tt, x1, x2, rfl, nT, rfl, g1, g2⟩
                have h2 : i < xs.length := by omega
                have h3 : i < ds.length := by omega
                dsimp only at g1 g2
                rw [List.getElem?_map, List.getElem?_eq_getElem hi] at g1
                rw [List.getElem?_eq_getElem h2] at g2
                cases g1
                cases g2
                have smT := same_upd (o := .tup [.str ks[i], xs[i]]) nT
                have s14 := s2.trans (sm.trans smT)
                refine ⟨Tt, _, rfl, stt upd_same, rfl, _, _, rfl, _, _, rfl, rfl, rfl, ?_⟩
                have okm : okD ds[i] = true := by
                  simp only [okD, Bool.and_eq_true] at hk
                  exact okAll_mem hk.2 _ (List.mem_cons_of_mem _ (List.getElem_mem h3))
                have depm : ds[i].depth ≤ n := by
                  have := depthAll_mem (List.mem_cons_of_mem (PyData.str z) (List.getElem_mem h3))
                  simp only [PyData.depth] at hdep
                  omega
                refine ⟨_, rfl, _, rfl, _, rfl, _, rfl, ks[i], xs[i], ds[i], kn, ar, cs, ls, hs, ps, rfl, s14.dp (dpAll_at hall1 h2 h3), okm, depm, kn1.same s14, ar1.same s14, fun H5 s5 => ?_⟩
                refine ⟨_, s5 _ _ (smT _ _ hL), ?_, ((sm.trans smT).trans s5).own nL, ?_⟩
                · rw [List.length_map, List.length_map]
                  refine small1000 (Nat.le_trans (List.length_take_le _ _) ?_)
                  have := kinds_len ez
                  omega
                · rw [upd_same, List.take_add_one, List.getElem?_eq_getElem (by rw [List.length_zip]; omega), List.getElem_zip, List.map_append, List.map_append]
                  rfl
              · rintro H3 ⟨sm, hL⟩
                rw [List.take_of_length_le (by rw [List.length_zip]; omega)] at hL
                refine ⟨L, _, rfl, sl hL, ?_⟩
                rw [List.all_map]
                exact q H3 (s1.trans (s2.trans sm))
            · refine ite1 (by rw [decide_eq_false hlen]; rfl) ?_
              have h2 := q H2 (s1.trans s2)
              rw [decide_eq_false hlen, Bool.false_and] at h2
              exact h2
        · refine ite1 (by rw [decide_eq_false hs0]; rfl) ?_
          have h2 := q H1 s1
          rw [show isRowD cs ls hs ps (.tuple (d0 :: ds)) = false by cases d0 <;> first | rfl | exact absurd rfl hs0] at h2
          exact h2
    · refine ite1 (by rw [decide_eq_false ht]; rfl) ?_
      have h2 := q H (Same.refl H)
      rw [show isRowD cs ls hs ps d = false by cases d <;> first | rfl | exact absurd rfl ht] at h2
      exact h2
end
end TP
namespace TP
open PySem PySem.Spec PyProof.Rows L2 HX HB HG HU HH HD HS
/-! ### what is around an inner body -/
def aroundP (z h nm : Str) (ps : List (Str × Str)) : List (Str × Str) :=
  if z = "start" then ps.take ((ps.map (·.1)).idxOf h + 1) else if z = "nest" ∨ z = "within" then ps ++ [(nm, z)] else ps
section
variable {P : Program} {w : World} {K : PySem.W.Frag} {mg : Str → Option Value} {base : Heap}
def spAround (K : PySem.W.Frag) : Sp := fun vs H Q _ => ∃ (a ar : Addr) (xs : List V) (z h nm : Str) (ps : List (Str × Str)), vs = [.ref a, .ref ar] ∧ SqT K H a xs ∧ xs[0]? = some (.str z) ∧ Ar K H ar ps ∧ ps.length + 1 ≤ 1000 ∧
  (z = "start" → xs[1]? = some (.str h) ∧ h ∈ ps.map (·.1)) ∧ (z = "nest" ∨ z = "within" → atI xs (-2) = some (.str nm)) ∧
  ∀ (ar' : Addr) (H' : Hp), Same H H' → Ar K H' ar' (aroundP z h nm ps) → Q (.ref ar') H'
theorem in_two' (c x y : Str) : inV (.str c) [.str x, .str y] = decide (c = x ∨ c = y) := by
  have e := inV_strs c [x, y]
  rw [show ([x, y].map V.str) = [.str x, .str y] from rfl] at e
  rw [e]
  exact decide_eq_decide.mpr (by simp)
theorem ok_around (T : Tp K w mg) : FnOk P w K mg base CX0 1 T.f_around T.fd_around ["row", "around"] (spAround K) := by
  refine T.D_around.F.ok sc_around (fun vs H Q E h => ?_) (fun cdv A outer s H vs Q E hr h => ?_)
  · obtain ⟨a, ar, xs, z, h, nm, ps, rfl, _⟩ := h
    rfl
  · obtain ⟨a, ar, xs, z, h, nm, ps, rfl, hx, hz, har, hfew, hst, hnw, q⟩ := h
    refine ⟨_, (pss_cons (ps_if (pt_cmpR op_eq (pe_ix ix_tup (pv 0) pe_int (fun _ _ => rfl)) pe_str (nomark _))
  (pss_one (ps_ret (pe_slice HT2.sl_tupA (pv 1) po_none (po_some (pe_op op_add (pe_bm PySem.F.plainAttrs_list PySem.F.slot_list_index PySem.F.type_list_index mt_index (pe_lc (own := [("name", 2), ("word", 3)]) (g := gTup K 2 (gCons (gName 2) (gCons (gName 3) gNil))) (by rfl) sc_around.nd (pi_tup (pv 1)) (blkOk_by (own := [("name", 2), ("word", 3)]) (N := ["row", "around", "name", "word"]) (sc := defScope s_around) (by decide +kernel)) (fun _ _ _ _ _ => (pg_tup rfl (pgs_cons (pg_name (i := 2) sc_around.nd rfl (.inl rfl)) (pgs_cons (pg_name (i := 3) sc_around.nd rfl (.inl rfl)) pgs_nil)))) (fun _ _ _ _ _ => pts_nil) (fun _ _ _ _ _ => (pv 2))) (pa_cons (pe_ix ix_tup (pv 0) pe_int (fun _ _ => rfl)) pa_nil)) pe_int)))))
  pss_nil)
  (pss_cons (ps_if (pt_cmpR op_in_seq (pe_ix ix_tup (pv 0) pe_int (fun _ _ => rfl)) (pe_tup (pa_cons pe_str (pa_cons pe_str pa_nil))) (by rfl))
  (pss_one (ps_ret (pe_op HT2.op_catA (pv 1) (pe_tup (pa_cons (pe_tup (pa_cons (pe_ix ix_tup (pv 0) (pe_un un_neg pe_int) (fun _ _ => rfl)) (pa_cons (pe_ix ix_tup (pv 0) pe_int (fun _ _ => rfl)) pa_nil))) pa_nil)))))
  pss_nil)
  (pss_one (ps_ret (pv 1))))), ?_⟩
    have at0 := atI_nat hz
    refine ⟨_, rfl, _, _, _, _, rfl, rfl, hx, at0, rfl, _, rfl, ?_⟩
    rw [es_str]
    refine ite2 (fun h1 => ?_) (fun h1 => ?_)
    · have h1 := of_decide_eq_true h1
      obtain ⟨k1, k2⟩ := hst h1
      rw [show aroundP z h nm ps = ps.take ((ps.map (·.1)).idxOf h + 1) by unfold aroundP; rw [if_pos h1]] at q
      obtain ⟨ts, a1, a2⟩ := har.ex
      have tl : ts.length = ps.length := a2.length
      refine ⟨_, rfl, _, rfl, ar, rfl, ⟨_, a1⟩, fun L nL => lc_it (walk_tup (xs := ts.map V.ref)) (fun i H2 => Same H H2 ∧ H2 L = some (.lst (((ps.take i).map (·.1)).map V.str))) ⟨same_upd nL, upd_same⟩ (fun i H2 _ g => g.1.sqt a1) ?_ ?_⟩
      · rintro i x H2 H3 hi ⟨sm, hL⟩ ⟨rfl, hx⟩
        rw [List.length_map] at hi
        rw [List.getElem?_map, List.getElem?_eq_getElem hi] at hx
        cases hx
        obtain ⟨p, e1, e2⟩ := paired_at a2 (List.getElem?_eq_getElem hi)
        refine ⟨_, _, rfl, sm.sqt e2, rfl, _, _, rfl, _, _, rfl, rfl, rfl, ?_⟩
        refine ⟨_, rfl, _, hL, ?_, sm.own nL, ?_⟩
        · rw [List.length_map, List.length_map]
          exact small1000 (Nat.le_trans (List.length_take_le _ _) (by omega))
        · rw [upd_same, List.take_add_one, e1, List.map_append, List.map_append]
          rfl
      · rintro H2 ⟨sm, hL⟩
        rw [List.length_map, tl, List.take_length] at hL
        have hj : (ps.map (·.1)).idxOf h < (ps.map (·.1)).length := List.idxOf_lt_length_of_mem k2
        have eqs : ∀ y z : Str, eqV (.str y) (.str z) = decide (y = z) := fun y z => by
          simp only [eqV]
          by_cases e : y = z
          · subst e; simp
          · rw [decide_eq_false e]; exact beq_eq_false_iff_ne.mpr e
        refine ⟨.inl ⟨rfl, _, sl hL⟩, _, rfl, _, _, _, _, rfl, rfl, sm.sqt hx, atI_nat (j := 1) k1, ?_⟩
        refine ⟨L, _, .str h, (ps.map (·.1)).idxOf h, .str h, rfl, rfl, sl hL, rfl, flat_strs _, ?_, ?_, ?_, _, _, rfl, rfl, ?_⟩
        · rw [List.getElem?_map, List.getElem?_eq_getElem hj, List.getElem_idxOf hj]
          rfl
        · rw [eqs]; exact decide_eq_true rfl
        · intro m z' hm hz'
          rw [List.getElem?_map] at hz'
          cases e : (ps.map (·.1))[m]? with
          | none => rw [e] at hz'; cases hz'
          | some y =>
            rw [e] at hz'
            cases hz'
            rw [eqs]
            refine decide_eq_false fun ey => ?_
            subst ey
            obtain ⟨hm2, e2⟩ := List.getElem?_eq_some_iff.mp e
            have h3 := List.not_of_lt_findIdx (p := (· == y)) (xs := ps.map (·.1)) hm
            rw [e2] at h3
            simp at h3
        · have har2 := har.same sm
          obtain ⟨ts2, b1, b2⟩ := har2.ex
          have tl2 : ts2.length = ps.length := b2.length
          generalize (ps.map (·.1)).idxOf h = j at hj q ⊢
          rw [List.length_map] at hj
          have ej : ((j : Int) + 1) = ((j + 1 : Nat) : Int) := by omega
          refine ⟨_, rfl, ar, _, rfl, b1, fun hw => ?_, fun hw p np => ?_⟩
          · have e : ps.take (j + 1) = ps := by
              have h2 := hw.2
              rw [ej, HT.sIx_nat, List.length_map, tl2] at h2
              exact List.take_of_length_le (by omega)
            rw [e] at q
            exact q ar H2 sm har2
          · have s3 := same_upd (o := .tup (cutV (ts2.map V.ref) none (some ((j : Int) + 1)))) np
            have ec : cutV (ts2.map V.ref) none (some ((j : Int) + 1)) = (ts2.take (j + 1)).map V.ref := by
              rw [ej, cut_to, List.map_take]
            refine q p _ (sm.trans s3) ⟨⟨ts2.take (j + 1), stt (by rw [upd_same, ec]), ?_⟩, by rw [List.length_take]; omega⟩
            have pt : ∀ {l : List Addr} {m : List (Str × Str)} (k : Nat), Paired (fun t (p : Str × Str) => SqT K H2 t [.str p.1, .str p.2]) l m → Paired (fun t (p : Str × Str) => SqT K H2 t [.str p.1, .str p.2]) (l.take k) (m.take k) := by
              intro l m k hp
              induction hp generalizing k with
              | nil => rw [List.take_nil, List.take_nil]; exact .nil
              | cons x t ih =>
                cases k with
                | zero => exact .nil
                | succ k => rw [List.take_succ_cons, List.take_succ_cons]; exact .cons x (ih k)
            exact paired_imp (fun _ _ h => s3.sqt h) (pt (j + 1) b2)
    refine ⟨_, rfl, _, _, _, _, rfl, rfl, hx, at0, by show 2 ≤ sizeLine; decide, fun p np => ?_⟩
    have s1 := same_upd (o := .tup [.str "nest", .str "within"]) np
    refine ⟨p, _, rfl, .inr (stt upd_same), rfl, rfl, _, rfl, ?_⟩
    rw [if_neg Bool.false_ne_true, in_two']
    have n1 : z ≠ "start" := fun e => h1 (decide_eq_true e)
    refine ite2 (fun h2 => ?_) (fun h2 => ?_)
    · have h2 := of_decide_eq_true h2
      rw [show aroundP z h nm ps = ps ++ [(nm, z)] by unfold aroundP; rw [if_neg n1, if_pos h2]] at q
      have har1 := har.same s1
      have hx1 := s1.sqt hx
      generalize upd H p (.tup [.str "nest", .str "within"]) = H1 at s1 har1 hx1 ⊢
      obtain ⟨ts, b1, b2⟩ := har1.ex
      have tl : ts.length = ps.length := b2.length
      refine ⟨_, rfl, _, rfl, _, rfl, a, _, _, _, rfl, rfl, hx1, hnw h2, _, rfl, _, _, _, _, rfl, rfl, hx1, at0, by show 2 ≤ sizeLine; decide, fun t nt => ?_⟩
      have s2 := same_upd (o := .tup [.str nm, .str z]) nt
      have ht : (upd H1 t (.tup [.str nm, .str z])) t = some (.tup [.str nm, .str z]) := upd_same
      generalize upd H1 t (.tup [.str nm, .str z]) = H2 at s2 ht ⊢
      refine ⟨by show 1 ≤ sizeLine; decide, fun t1 nt1 => ?_⟩
      have s3 := same_upd (o := .tup [.ref t]) nt1
      have ht1 : (upd H2 t1 (.tup [.ref t])) t1 = some (.tup [.ref t]) := upd_same
      generalize upd H2 t1 (.tup [.ref t]) = H3 at s3 ht1 ⊢
      have s13 := s2.trans s3
      refine ⟨ar, t1, _, [.ref t], rfl, rfl, s13.sqt b1, stt ht1, by rw [List.length_map]; exact Evl.sz_of (by show ts.length + 1 ≤ _; omega), fun e => ?_, (fun _ e => nomatch e), fun _ _ p2 np2 => ?_⟩
      · have e0 : ps = [] := by
          have := congrArg List.length e
          rw [List.length_map, List.length_nil] at this
          exact List.length_eq_zero_iff.mp (by omega)
        subst e0
        exact q t1 H3 (s1.trans s13) ⟨⟨[t], stt ht1, .cons (stt (s3 _ _ ht)) .nil⟩, by show 1 ≤ 1000; decide⟩
      · have s4 := same_upd (o := .tup (ts.map V.ref ++ [.ref t])) np2
        refine q p2 _ (s1.trans (s13.trans s4)) ⟨⟨ts ++ [t], stt (by rw [upd_same, List.map_append]; rfl), ?_⟩, by rw [List.length_append]; exact hfew⟩
        exact (paired_imp (fun _ _ h => (s13.trans s4).sqt h) b2).snoc (stt ((s3.trans s4) _ _ ht))
    · rw [show aroundP z h nm ps = ps by unfold aroundP; rw [if_neg n1, if_neg (fun e => h2 (decide_eq_true e))]] at q
      exact ⟨_, rfl, q ar _ s1 (har.same s1)⟩
end
end TP
namespace TP
open PySem PySem.Spec PyProof.Rows L2 HX HB HG HU HH HD HS
/-! ### the first wrong place -/
def firstSome {α β : Type} (f : Nat → α → Option β) : Nat → List α → Option β
  | _, [] => none
  | i, x :: xs => match f i x with
    | some b => some b
    | none => firstSome f (i + 1) xs
def wordD : PyData → Str
  | .tuple (.str z :: _) => z
  | _ => ""
def homeD : PyData → Str
  | .tuple (_ :: .str h :: _) => h
  | _ => ""
def txtD : PyData → Str
  | .str z => z
  | _ => ""
def lastD : PyData → Str
  | .tuple ds => txtD (ds.getD (ds.length - 2) .none)
  | _ => ""
def arD (d : PyData) (ps : List (Str × Str)) : List (Str × Str) := aroundP (wordD d) (homeD d) (lastD d) ps
def bodiesD : PyData → List PyData
  | .tuple (.str z :: ds) => match kindsOf z with
    | some ks => bodiesV ks ds
    | none => []
  | _ => []
def rowsD : PyData → List PyData
  | .tuple ds => ds
  | _ => []
def oftD (d : PyData) : Int := if wordD d = "often" then 1 else 0
def wrongD (cs ls hs : List Str) : Nat → List PyData → List Int → List (Str × Str) → Int → Option (List Int)
  | 0, _, _, _, _ => none
  | n + 1, rows, place, ps, oft => firstSome (fun i row =>
      if 19 < place.length + 1 ∨ isRowD cs ls hs ps row = false then some (place ++ [(i : Int)])
      else if 3 < oft + oftD row then some (place ++ [(i : Int)])
      else firstSome (fun j b => wrongD cs ls hs n (rowsD b) (place ++ [(i : Int)] ++ [(j : Int)]) (arD row ps) (oft + oftD row)) 0 (bodiesD row)) 0 rows
/-- what a right row has -/
structure RowOk (cs ls hs : List Str) (ps : List (Str × Str)) (d : PyData) (z : Str) (ks : List Str) (ds : List PyData) : Prop where
  eq : d = .tuple (.str z :: ds)
  ks_ : kindsOf z = some ks
  len : ds.length = ks.length
  parts : ∀ q ∈ ks.zip ds, isPartD cs ls hs ps q.1 q.2 = true
theorem row_ok {cs ls hs : List Str} {ps : List (Str × Str)} {d : PyData} (h : isRowD cs ls hs ps d = true) : ∃ z ks ds, RowOk cs ls hs ps d z ks ds := by
  unfold isRowD at h
  split at h
  · rename_i z ds
    cases e : kindsOf z with
    | none => rw [e] at h; cases h
    | some ks =>
      rw [e] at h
      simp only [Bool.and_eq_true, decide_eq_true_eq] at h
      exact ⟨z, ks, ds, rfl, e, h.1, fun q hq => List.all_eq_true.mp h.2 q hq⟩
  · cases h
theorem mergeZ_mem : ∀ (ps acc : List (Str × Str)) (z : Str), z ∈ (mergeZ acc ps).map (·.1) → z ∈ acc.map (·.1) ∨ z ∈ ps.map (·.1)
  | [], acc, z, h => .inl h
  | p :: ps, acc, z, h => by
    rcases mergeZ_mem ps (putZ acc p.1 p.2) z h with h | h
    · rw [putZ_keys] at h
      split at h
      · exact .inl h
      · rcases List.mem_append.mp h with h | h
        · exact .inl h
        · exact .inr (by rw [List.mem_singleton.mp h, List.map_cons]; exact List.mem_cons_self ..)
    · exact .inr (by rw [List.map_cons]; exact List.mem_cons_of_mem _ h)
theorem lookW_mem {ps : List (Str × Str)} {z w : Str} (h : lookW ps z = some w) : z ∈ ps.map (·.1) := by
  unfold lookW lookS at h
  cases e : (mergeZ [] ps).find? fun p => decide (p.1 = z) with
  | none => rw [e] at h; cases h
  | some q =>
    have h1 := List.mem_of_find?_eq_some e
    have h2 : q.1 = z := by have := List.find?_some e; simpa using this
    rcases mergeZ_mem ps [] z (List.mem_map.mpr ⟨q, h1, h2⟩) with h | h
    · cases h
    · exact h
theorem part_home {cs ls hs : List Str} {ps : List (Str × Str)} {d : PyData} (h : isPartD cs ls hs ps "home" d = true) : ∃ z, d = .str z ∧ z ∈ ps.map (·.1) := by
  have e : isPartD cs ls hs ps "home" d = strPart d fun z => namePart "home" z cs ls hs ps := rfl
  rw [e] at h
  cases d with
  | str z =>
    refine ⟨z, rfl, ?_⟩
    have h2 : (isNameL z && decide (lookW ps z = some ("nest" : Str))) = true := h
    rw [Bool.and_eq_true] at h2
    exact lookW_mem (of_decide_eq_true h2.2)
  | _ => cases h
theorem part_scope {cs ls hs : List Str} {ps : List (Str × Str)} {d : PyData} (h : isPartD cs ls hs ps "scope" d = true) : ∃ z, d = .str z := by
  have e : isPartD cs ls hs ps "scope" d = strPart d fun z => namePart "scope" z cs ls hs ps := rfl
  rw [e] at h
  cases d with
  | str z => exact ⟨z, rfl⟩
  | _ => cases h
theorem part_body {cs ls hs : List Str} {ps : List (Str × Str)} {d : PyData} (h : isPartD cs ls hs ps "body" d = true) : d = .tuple (rowsD d) := by
  have e : isPartD cs ls hs ps "body" d = decide (kindD d = "tuple") := rfl
  rw [e] at h
  cases d <;> first | rfl | exact absurd (of_decide_eq_true h) (by simp [kindD])
theorem bodies_parts : ∀ {ks : List Str} {ds : List PyData} {P : PyData → Prop}, (∀ q ∈ ks.zip ds, q.1 = "body" → P q.2) → ∀ b ∈ bodiesV ks ds, P b
  | [], _, P, _, b, hb => by simp [bodiesV] at hb
  | k :: ks, [], P, _, b, hb => by simp [bodiesV] at hb
  | k :: ks, d :: ds, P, h, b, hb => by
    have ih := bodies_parts (ks := ks) (ds := ds) (P := P) fun q hq => h q (by rw [List.zip_cons_cons]; exact List.mem_cons_of_mem _ hq)
    simp only [bodiesV] at hb
    split at hb
    · rename_i hk
      rcases List.mem_cons.mp hb with rfl | hb
      · exact h (k, b) (by rw [List.zip_cons_cons]; exact List.mem_cons_self ..) hk
      · exact ih b hb
    · exact ih b hb
theorem bodiesV_mem {α : Type} : ∀ {ks : List Str} {ds : List α} {b : α}, b ∈ bodiesV ks ds → b ∈ ds
  | [], _, b, h => by simp [bodiesV] at h
  | k :: ks, [], b, h => by simp [bodiesV] at h
  | k :: ks, d :: ds, b, h => by
    simp only [bodiesV] at h
    split at h
    · rcases List.mem_cons.mp h with rfl | h
      · exact List.mem_cons_self ..
      · exact List.mem_cons_of_mem _ (bodiesV_mem h)
    · exact List.mem_cons_of_mem _ (bodiesV_mem h)
theorem kinds_start : kindsOf "start" = some (["home", "body"] : List Str) := rfl
theorem kinds_nest : kindsOf "nest" = some (["scope", "body"] : List Str) := rfl
theorem kinds_within : kindsOf "within" = some (["span", "scope", "body"] : List Str) := rfl
/-- data that the rules take, of depth n at most -/
structure Good (d : PyData) (n : Nat) : Prop where
  ok : okD d = true
  lay : PyData.canLay0 d = true
  dep : d.depth ≤ n
theorem canLay_mem : ∀ {xs : List PyData}, PyData.canLayAll0 xs = true → ∀ x ∈ xs, PyData.canLay0 x = true
  | y :: ys, h, x, hx => by
    simp only [PyData.canLayAll0, Bool.and_eq_true] at h
    rcases List.mem_cons.mp hx with rfl | hx
    · exact h.1
    · exact canLay_mem h.2 x hx
theorem Good.item {ds : List PyData} {n : Nat} (g : Good (.tuple ds) (n + 1)) {d : PyData} (h : d ∈ ds) : Good d n := by
  obtain ⟨h1, h2, h3⟩ := g
  simp only [okD, Bool.and_eq_true] at h1
  simp only [PyData.depth] at h3
  refine ⟨okAll_mem h1.2 d h, ?_, by have := depthAll_mem h; omega⟩
  exact canLay_mem (by simpa [PyData.canLay0] using h2) d h
theorem Good.shaped {d : PyData} {n : Nat} (g : Good d n) (hn : n ≤ 64) : SeqAt.shaped d = true := by
  show (PyData.canLay0 d && decide (d.depth ≤ 64)) = true
  rw [g.lay, decide_eq_true (Nat.le_trans g.dep hn)]
  rfl
theorem Good.mono {d : PyData} {n m : Nat} (g : Good d n) (h : n ≤ m) : Good d m := ⟨g.ok, g.lay, Nat.le_trans g.dep h⟩
end TP
namespace TP
open PySem PySem.Spec PyProof.Rows L2 HX HB HG HU HH HD HS
def Res (K : PySem.W.Frag) (H : Hp) (r : Option (List Int)) (v : V) : Prop := match r with
  | none => v = .non
  | some p => ∃ t : Addr, v = .ref t ∧ SqT K H t (p.map V.int)
theorem Res.same {K : PySem.W.Frag} {H H' : Hp} {r : Option (List Int)} {v : V} (h : Res K H r v) (s : Same H H') : Res K H' r v := by
  cases r with
  | none => exact h
  | some p => obtain ⟨t, e, h⟩ := h; exact ⟨t, e, s.sqt h⟩
/-- what one row comes to -/
def rowF (cs ls hs : List Str) (n : Nat) (place : List Int) (ps : List (Str × Str)) (oft : Int) (i : Nat) (row : PyData) : Option (List Int) :=
  if 19 < place.length + 1 ∨ isRowD cs ls hs ps row = false then some (place ++ [(i : Int)])
  else if 3 < oft + oftD row then some (place ++ [(i : Int)])
  else firstSome (fun j b => wrongD cs ls hs n (rowsD b) (place ++ [(i : Int)] ++ [(j : Int)]) (arD row ps) (oft + oftD row)) 0 (bodiesD row)
theorem firstSome_at {α β : Type} (f : Nat → α → Option β) {xs : List α} {i : Nat} (h : i < xs.length) : firstSome f i (xs.drop i) = match f i xs[i] with
    | some b => some b
    | none => firstSome f (i + 1) (xs.drop (i + 1)) := by
  rw [List.drop_eq_getElem_cons h]
  rfl
theorem dpAll_bodies {K : PySem.W.Frag} {H : Hp} : ∀ (ks : List Str) {xs : List V} {ds : List PyData}, DpAll K H xs ds → DpAll K H (bodiesV ks xs) (bodiesV ks ds)
  | [], _, _, _ => .nil
  | k :: ks, _, _, .nil => .nil
  | k :: ks, _, _, .cons p t => by
    have ih := dpAll_bodies ks t
    simp only [bodiesV]
    split
    · exact .cons p ih
    · exact ih
theorem dpAll_cons {K : PySem.W.Frag} {H : Hp} {xs : List V} {d : PyData} {ds : List PyData} (h : DpAll K H xs (d :: ds)) : ∃ x ys, xs = x :: ys ∧ Dp K H x d ∧ DpAll K H ys ds := by
  cases h with
  | cons p t => exact ⟨_, _, rfl, p, t⟩
theorem dpAll_nil {K : PySem.W.Frag} {H : Hp} {xs : List V} (h : DpAll K H xs []) : xs = [] := by
  cases h
  rfl
theorem around_ok {cs ls hs : List Str} {ps : List (Str × Str)} {z : Str} {ks : List Str} {ds : List PyData} {K : PySem.W.Frag} {H : Hp} {rxs : List V} (R : RowOk cs ls hs ps (.tuple (.str z :: ds)) z ks ds) (rall : DpAll K H rxs ds) :
    (z = "start" → (V.str z :: rxs)[1]? = some (.str (homeD (.tuple (.str z :: ds)))) ∧ homeD (.tuple (.str z :: ds)) ∈ ps.map (·.1)) ∧
    (z = "nest" ∨ z = "within" → atI (V.str z :: rxs) (-2) = some (.str (lastD (.tuple (.str z :: ds))))) := by
  obtain ⟨_, hk, hl, hp⟩ := R
  refine ⟨fun e => ?_, fun e => ?_⟩
  · subst e
    rw [kinds_start] at hk
    cases hk
    match ds, rall, hl, hp with
    | [d1, d2], rall, _, hp =>
      obtain ⟨h, rfl, hm⟩ := part_home (hp ("home", d1) (List.mem_cons_self ..))
      cases rall with
      | cons p1 rall => cases p1; exact ⟨rfl, hm⟩
  · rcases e with rfl | rfl
    · rw [kinds_nest] at hk
      cases hk
      match ds, rall, hl, hp with
      | [d1, d2], rall, _, hp =>
        obtain ⟨h, rfl⟩ := part_scope (hp ("scope", d1) (List.mem_cons_self ..))
        obtain ⟨x1, r1, rfl, p1, rall⟩ := dpAll_cons rall
        obtain ⟨x2, r2, rfl, p2, rall⟩ := dpAll_cons rall
        cases dpAll_nil rall
        cases p1
        rfl
    · rw [kinds_within] at hk
      cases hk
      match ds, rall, hl, hp with
      | [d0, d1, d2], rall, _, hp =>
        obtain ⟨h, rfl⟩ := part_scope (hp ("scope", d1) (List.mem_cons_of_mem _ (List.mem_cons_self ..)))
        obtain ⟨x0, r0, rfl, p0, rall⟩ := dpAll_cons rall
        obtain ⟨x1, r1, rfl, p1, rall⟩ := dpAll_cons rall
        obtain ⟨x2, r2, rfl, p2, rall⟩ := dpAll_cons rall
        cases dpAll_nil rall
        cases p1
        rfl
theorem around_len (z h nm : Str) (ps : List (Str × Str)) : (aroundP z h nm ps).length ≤ ps.length + 1 := by
  unfold aroundP
  split
  · rw [List.length_take]; omega
  · split
    · rw [List.length_append, List.length_singleton]; omega
    · omega
section
variable {P : Program} {w : World} {K : PySem.W.Frag} {mg : Str → Option Value} {base : Heap}
def spWrong (K : PySem.W.Frag) (N n : Nat) : Sp := fun vs H Q _ => ∃ (b pl kn ar : Addr) (rows : List PyData) (place : List Int) (cs ls hs : List Str) (ps : List (Str × Str)) (oft : Int), vs = [.ref b, .ref pl, .ref kn, .ref ar, .int oft] ∧
  Dp K H (.ref b) (.tuple rows) ∧ Good (.tuple rows) n ∧ n ≤ N ∧ Kn K H kn cs ls hs ∧ Ar K H ar ps ∧ SqT K H pl (place.map V.int) ∧ ps.length ≤ place.length ∧ place.length ≤ 20 ∧ 0 ≤ oft ∧ oft ≤ 10 ∧
  ∀ v H', Same H H' → Res K H' (wrongD cs ls hs n rows place ps oft) v → Q v H'
theorem ok_wrong (T : Tp K w mg) (N : Nat) (hN : N ≤ 64) : ∀ n, FnOk P w K mg base CX0 (n + (N + 4) + 1) T.f_wrong T.fd_wrong ["body", "place", "known", "around", "oftens"] (spWrong K N n) := rec_fn (c := N + 4) (sp := spWrong K N) fun n ih => by
  refine T.D_wrong.F.ok sc_wrong (fun vs H Q E h => ?_) (fun cdv A outer s H vs Q E hr h => ?_)
  · obtain ⟨b, pl, kn, ar, rows, place, cs, ls, hs, ps, oft, rfl, _⟩ := h
    rfl
  · obtain ⟨b, pl, kn, ar, rows, place, cs, ls, hs, ps, oft, rfl, hd, good, hnN, hkn, har, hpl, hps, hp20, o0, o1, q⟩ := h
    refine ⟨_, (pss_cons (ps_for PassesOwn.never rfl (HE.pi_enumT (by rfl) T.enumerate (pa_cons (pv 0) pa_nil)) (pg_tup rfl (pgs_cons (pg_name (i := 5) sc_wrong.nd rfl (.inl rfl)) (pgs_cons (pg_name (i := 6) sc_wrong.nd rfl (.inl rfl)) pgs_nil)))
  (Evl.pss_cut (ps_set (i := 7) sc_wrong.nd rfl (.inl rfl) (pe_op HT2.op_catA (pv 1) (pe_tup (pa_cons (pv 5) pa_nil))))
  (pss_cons (ps_if (PW.pt (pw_or (pt_cmpR op_gt (pe_callB call_len_seq (by rfl) T.len PySem.boot_len (pa_cons (pv 7) pa_nil)) (pe_op op_add (pe_op op_mul pe_int (pe_gi (by rfl) T.c_MOST_DEEP)) pe_int) (nomark _)) (pw_or1 (pt_not (pt_val (pcall T.D_isrow (ok_isrow T N) (hr.mono (by omega)) (by rfl) (pa_cons (pv 6) (pa_cons (pv 2) (pa_cons (pv 3) pa_nil)))))))))
  (pss_one (ps_ret (pv 7)))
  pss_nil)
  (pss_cons (ps_set (i := 8) sc_wrong.nd rfl (.inl rfl) (pe_op op_add (pv 4) (pe_callTy call_int1 (by rfl) T.int (by decide +kernel) (pa_cons (pe_cmpR op_eq (pe_ix ix_tup (pv 6) pe_int (fun _ _ => rfl)) pe_str (nomark _)) pa_nil))))
  (pss_cons (ps_if (pt_cmpR op_gt (pv 8) (pe_op op_add (pe_gi (by rfl) T.c_MOST_OFTEN) pe_int) (nomark _))
  (pss_one (ps_ret (pv 7)))
  pss_nil)
  (pss_one (ps_for PassesOwn.never rfl (pi_enum (by rfl) T.enumerate (pa_cons (pcall T.D_bodies (ok_bodies T) (hr.mono (by omega)) (by rfl) (pa_cons (pv 6) pa_nil)) pa_nil)) (pg_tup rfl (pgs_cons (pg_name (i := 9) sc_wrong.nd rfl (.inl rfl)) (pgs_cons (pg_name (i := 10) sc_wrong.nd rfl (.inl rfl)) pgs_nil)))
  (pss_cons (ps_set (i := 11) sc_wrong.nd rfl (.inl rfl) (pcall T.D_wrong ih (hr.mono (by omega)) (by rfl) (pa_cons (pv 10) (pa_cons (pe_op HT2.op_catA (pv 7) (pe_tup (pa_cons (pv 9) pa_nil))) (pa_cons (pv 2) (pa_cons (pcall T.D_around (ok_around T) (hr.mono (by omega)) (by rfl) (pa_cons (pv 6) (pa_cons (pv 3) pa_nil))) (pa_cons (pv 8) pa_nil)))))))
  (pss_one (ps_if (pt_cmpR op_notN (pv 11) pe_non (nomark _))
  (pss_one (ps_ret (pv 11)))
  pss_nil))))))))))
  (pss_one (ps_ret pe_non))), ?_⟩
    obtain ⟨m, rfl⟩ : ∃ m, n = m + 1 := by
      have := good.dep
      simp only [PyData.depth] at this
      exact ⟨n - 1, by omega⟩
    obtain ⟨b', xs, e, hx, hall⟩ := dp_tup hd
    cases e
    have lx : xs.length = rows.length := dpAll_len hall
    have eW : wrongD cs ls hs (m + 1) rows place ps oft = firstSome (rowF cs ls hs m place ps oft) 0 rows := rfl
    refine ⟨_, rfl, b, xs, rfl, hx, for_it (HE.walk_enumT (xs := xs)) (fun i σ H2 => (∃ y5 y6 y7 y8 y9 y10 y11, σ = [some (.ref b), some (.ref pl), some (.ref kn), some (.ref ar), some (.int oft), y5, y6, y7, y8, y9, y10, y11]) ∧ Same H H2 ∧ firstSome (rowF cs ls hs m place ps oft) i (rows.drop i) = firstSome (rowF cs ls hs m place ps oft) 0 rows) ?_ ?_ ?_ ?_⟩
    · exact ⟨⟨_, _, _, _, _, _, _, rfl⟩, Same.refl H, by rw [List.drop_zero]⟩
    · rintro i σ H2 _ ⟨_, s2, _⟩
      exact s2.sqt hx
    · rintro i x σ H2 H3 hi ⟨⟨y5, y6, y7, y8, y9, y10, y11, rfl⟩, s2, ef⟩ ⟨Tt, x1, x2, rfl, nT, rfl, g1, g2⟩
      cases g1
      dsimp only at g2
      rw [List.getElem?_eq_getElem hi] at g2
      cases g2
      have hi2 : i < rows.length := by omega
      have sT := same_upd (o := .tup [.int (i : Nat), xs[i]]) nT
      refine ⟨Tt, _, rfl, stt upd_same, rfl, _, _, rfl, _, _, rfl, rfl, ?_⟩
      have s3 := s2.trans sT
      generalize upd H2 Tt (.tup [.int (i : Nat), xs[i]]) = H3 at s3 ⊢
      rw [firstSome_at _ hi2] at ef
      have hrow := s3.dp (dpAll_at hall hi hi2)
      have grow : Good rows[i] m := good.item (List.getElem_mem hi2)
      generalize rows[i] = row at ef hrow grow
      generalize xs[i] = xr at hrow ⊢
      refine ⟨fun σ H4 => ∃ (hh : Addr), (∃ y8 y9 y10 y11, σ = [some (.ref b), some (.ref pl), some (.ref kn), some (.ref ar), some (.int oft), some (.int (i : Nat)), some xr, some (.ref hh), y8, y9, y10, y11]) ∧ Same H3 H4 ∧ SqT K H4 hh ((place ++ [(i : Int)]).map V.int), ?_, ?_⟩
      · refine ⟨_, rfl, _, rfl, by show 1 ≤ sizeLine; decide, fun p np => ?_⟩
        have s4 := same_upd (o := .tup [.int (i : Nat)]) np
        have hp : (upd H3 p (.tup [.int (i : Nat)])) p = some (.tup [.int (i : Nat)]) := upd_same
        generalize upd H3 p (.tup [.int (i : Nat)]) = H4 at s4 hp ⊢
        refine ⟨pl, p, _, _, rfl, rfl, (s3.trans s4).sqt hpl, stt hp, by rw [List.length_map]; exact Evl.sz_of (by show place.length + 1 ≤ _; omega), fun e => ?_, (fun _ e => nomatch e), fun _ _ p2 np2 => ?_⟩
        · have e0 : place = [] := by cases place <;> first | rfl | cases e
          subst e0
          exact ⟨p, ⟨_, _, _, _, rfl⟩, s4, stt hp⟩
        · have s5 := same_upd (o := .tup (place.map V.int ++ [.int (i : Nat)])) np2
          exact ⟨p2, ⟨_, _, _, _, rfl⟩, s4.trans s5, stt (by rw [upd_same, List.map_append]; rfl)⟩
      · rintro σ H4 ⟨hh, ⟨y8, y9, y10, y11, rfl⟩, s34, hhh⟩
        have s4 := s3.trans s34
        have hrow4 := s34.dp hrow
        have elen : decide ((2 : Int) * 9 + 1 < (((place ++ [(i : Int)]).map V.int).length : Nat)) = decide (19 < place.length + 1) := by
          rw [List.length_map, List.length_append, List.length_singleton]
          exact decide_eq_decide.mpr (by omega)
        have wrong : ∀ H5, Same H4 H5 → rowF cs ls hs m place ps oft i row = some (place ++ [(i : Int)]) → Q (.ref hh) H5 := fun H5 s5 e => by
          refine q (.ref hh) H5 (s4.trans s5) ?_
          rw [eW, ← ef, e]
          exact ⟨hh, rfl, s5.sqt hhh⟩
        refine ⟨_, rfl, hh, _, rfl, .inr hhh, _, _, rfl, rfl, .inl ⟨by decide, by decide⟩, _, _, rfl, rfl, _, _, rfl, rfl, _, rfl, ?_⟩
        rw [elen]
        refine ite2 (fun h1 => ?_) (fun h1 => ?_)
        · exact ⟨_, rfl, wrong H4 (Same.refl _) (by unfold rowF; rw [if_pos (.inl (of_decide_eq_true h1))])⟩
        have h1 : ¬ 19 < place.length + 1 := fun z => h1 (decide_eq_true z)
        refine ⟨_, rfl, _, rfl, _, rfl, xr, row, kn, ar, cs, ls, hs, ps, rfl, hrow4, grow.ok, grow.shaped (by omega), Nat.le_trans grow.dep (by omega), hkn.same s4, har.same s4, fun H5 s5 => ⟨_, rfl, ?_⟩⟩
        cases er : isRowD cs ls hs ps row with
        | false => exact ite1 rfl ⟨_, rfl, wrong H5 s5 (by unfold rowF; rw [if_pos (.inr er)])⟩
        | true =>
        refine ite0 rfl ?_
        obtain ⟨z, ks, ds, R⟩ := row_ok er
        obtain rfl := R.eq
        obtain ⟨ra, rxs, rfl, rx, rall⟩ := dp_tup (s5.dp hrow4)
        cases rall with
        | cons pz rall =>
        cases pz
        rename_i rxs
        have s45 := s4.trans s5
        have hhh5 := s5.sqt hhh
        refine ⟨_, rfl, _, rfl, _, _, _, _, rfl, rfl, rx, atI_nat (j := 0) rfl, rfl, .inr ⟨_, rfl, _, _, rfl, rfl, ?_⟩⟩
        have eo : (if decide (V.str z = V.str "often") = true then (1 : Int) else 0) = oftD (.tuple (.str z :: ds)) := by
          rw [es_str]
          unfold oftD wordD
          by_cases e : z = "often"
          · rw [if_pos (decide_eq_true e), if_pos e]
          · rw [if_neg (fun h => e (of_decide_eq_true h)), if_neg e]
        rw [eo]
        have oft01 : 0 ≤ oftD (.tuple (.str z :: ds)) ∧ oftD (.tuple (.str z :: ds)) ≤ 1 := by unfold oftD; split <;> decide
        refine ⟨_, rfl, _, _, rfl, rfl, _, _, rfl, rfl, _, rfl, ite2 (fun h2 => ?_) (fun h2 => ?_)⟩
        · have h2 : 3 < oft + oftD (.tuple (.str z :: ds)) := of_decide_eq_true h2
          exact ⟨_, rfl, wrong H5 s5 (by unfold rowF; rw [if_neg (fun h => h.elim h1 (fun e => by rw [er] at e; cases e)), if_pos h2])⟩
        have h2 : ¬ 3 < oft + oftD (.tuple (.str z :: ds)) := fun e => h2 (decide_eq_true e)
        have eF : rowF cs ls hs m place ps oft i (.tuple (.str z :: ds)) = firstSome (fun j b => wrongD cs ls hs m (rowsD b) (place ++ [(i : Int)] ++ [(j : Int)]) (arD (.tuple (.str z :: ds)) ps) (oft + oftD (.tuple (.str z :: ds)))) 0 (bodiesV ks ds) := by
          unfold rowF
          rw [if_neg (fun h => h.elim h1 (fun e => by rw [er] at e; cases e)), if_neg h2]
          have eb : bodiesD (.tuple (.str z :: ds)) = bodiesV ks ds := by
            show (match kindsOf z with | some ks => _ | none => _) = _
            rw [R.ks_]
          rw [eb]
        rw [eF] at ef
        have lr : rxs.length = ds.length := dpAll_len rall
        have lks : ks.length ≤ 3 := kinds_len R.ks_
        refine ⟨_, rfl, ra, z, ks, rxs, rfl, rx, R.ks_, fun lp H6 nlp s6 hlp => ?_⟩
        have hb6 := dpAll_bodies ks (s6.dpAll rall)
        have lb : (bodiesV ks rxs).length = (bodiesV ks ds).length := dpAll_len hb6
        have s46 := s45.trans s6
        have hhh6 := s6.sqt hhh5
        have rx6 := s6.sqt rx
        generalize hg : (fun (j : Nat) (b : PyData) => wrongD cs ls hs m (rowsD b) (place ++ [(i : Int)] ++ [(j : Int)]) (arD (.tuple (.str z :: ds)) ps) (oft + oftD (.tuple (.str z :: ds)))) = g at ef
        refine ⟨lp, bodiesV ks rxs, rfl, sl hlp, for_it (walk_enum (xs := bodiesV ks rxs)) (fun j σ H7 => (∃ y9 y10 y11, σ = [some (.ref b), some (.ref pl), some (.ref kn), some (.ref ar), some (.int oft), some (.int (i : Nat)), some (.ref ra), some (.ref hh), some (.int (oft + oftD (.tuple (.str z :: ds)))), y9, y10, y11]) ∧ Same H6 H7 ∧ firstSome g j ((bodiesV ks ds).drop j) = firstSome g 0 (bodiesV ks ds)) ?_ ?_ ?_ ?_⟩
        · exact ⟨⟨_, _, _, rfl⟩, Same.refl _, by rw [List.drop_zero]⟩
        · rintro j σ H7 _ ⟨_, s7, _⟩
          exact sl (s7 _ _ hlp)
        · rintro j x σ H7 H8 hj ⟨⟨y9, y10, y11, rfl⟩, s7, eg⟩ ⟨T2, x1, x2, rfl, nT2, rfl, g1, g2⟩
          cases g1
          dsimp only at g2
          rw [List.getElem?_eq_getElem hj] at g2
          cases g2
          have hj2 : j < (bodiesV ks ds).length := by omega
          have sT2 := same_upd (o := .tup [.int (j : Nat), (bodiesV ks rxs)[j]]) nT2
          refine ⟨T2, _, rfl, stt upd_same, rfl, _, _, rfl, _, _, rfl, rfl, ?_⟩
          have s78 := s7.trans sT2
          generalize upd H7 T2 (.tup [.int (j : Nat), (bodiesV ks rxs)[j]]) = H8 at s78 ⊢
          have hb8 := s78.dp (dpAll_at hb6 hj hj2)
          have hbm : (bodiesV ks ds)[j] ∈ bodiesV ks ds := List.getElem_mem hj2
          rw [firstSome_at _ hj2] at eg
          have ebt := bodies_parts (P := fun d => d = .tuple (rowsD d)) (fun q hq hk => part_body (by have := R.parts q hq; rw [hk] at this; exact this)) _ hbm
          have gb : Good (bodiesV ks ds)[j] m := by
            obtain ⟨m', hm⟩ : ∃ m', m = m' + 1 := by
              have := grow.dep
              simp only [PyData.depth] at this
              exact ⟨m - 1, by omega⟩
            subst hm
            exact (grow.item (List.mem_cons_of_mem _ (bodiesV_mem hbm))).mono (by omega)
          generalize (bodiesV ks ds)[j] = b0 at hb8 eg ebt gb
          generalize (bodiesV ks rxs)[j] = vb at hb8 ⊢
          obtain ⟨rb, erb⟩ : ∃ rb, rb = rowsD b0 := ⟨_, rfl⟩
          rw [← erb] at ebt
          subst ebt
          obtain ⟨bb, bxs, rfl, _, _⟩ := dp_tup (id hb8)
          have hps' := s46.trans s78
          have ao := around_ok R rall
          refine ⟨_, rfl, _, rfl, _, rfl, by show 1 ≤ sizeLine; decide, fun p np => ?_⟩
          have s9 := same_upd (o := .tup [.int (j : Nat)]) np
          have hp9 : (upd H8 p (.tup [.int (j : Nat)])) p = some (.tup [.int (j : Nat)]) := upd_same
          generalize upd H8 p (.tup [.int (j : Nat)]) = H9 at s9 hp9 ⊢
          refine ⟨hh, p, _, _, rfl, rfl, (s78.trans s9).sqt hhh6, stt hp9, by rw [List.length_map, List.length_append, List.length_singleton]; exact Evl.sz_of (by show place.length + 1 + 1 ≤ _; omega), (fun e => by simp at e), (fun _ e => nomatch e), fun _ _ p2 np2 => ?_⟩
          have s10 := same_upd (o := .tup ((place ++ [(i : Int)]).map V.int ++ [.int (j : Nat)])) np2
          have hp10 : SqT K (upd H9 p2 (.tup ((place ++ [(i : Int)]).map V.int ++ [.int (j : Nat)]))) p2 ((place ++ [(i : Int)] ++ [(j : Int)]).map V.int) := stt (by rw [upd_same, List.map_append (l₁ := place ++ [(i : Int)])]; rfl)
          generalize upd H9 p2 (.tup ((place ++ [(i : Int)]).map V.int ++ [.int (j : Nat)])) = H10 at s10 hp10 ⊢
          have s810 := s9.trans s10
          have sA := hps'.trans s810
          refine ⟨_, rfl, _, rfl, _, rfl, ra, ar, V.str z :: rxs, z, homeD (.tuple (.str z :: ds)), lastD (.tuple (.str z :: ds)), ps, rfl, (s78.trans s810).sqt rx6, rfl, har.same sA, by omega, ao.1, ao.2, fun ar' H11 s11 har' => ?_⟩
          have la := around_len z (homeD (.tuple (.str z :: ds))) (lastD (.tuple (.str z :: ds))) ps
          refine ⟨_, rfl, bb, p2, kn, ar', rb, _, cs, ls, hs, _, _, rfl, (s810.trans s11).dp hb8, gb, by omega, hkn.same (sA.trans s11), har', s11.sqt hp10, by rw [List.length_append, List.length_append, List.length_singleton, List.length_singleton]; omega, by rw [List.length_append, List.length_append, List.length_singleton, List.length_singleton]; omega, by omega, by omega, fun v H12 s12 hres => ?_⟩
          have egj : g j (.tuple rb) = wrongD cs ls hs m rb (place ++ [(i : Int)] ++ [(j : Int)]) (aroundP z (homeD (.tuple (.str z :: ds))) (lastD (.tuple (.str z :: ds))) ps) (oft + oftD (.tuple (.str z :: ds))) := by
            rw [← hg]
            dsimp only
            rw [← erb]
            rfl
          rw [← egj] at hres
          have sB := (s810.trans s11).trans s12
          refine ⟨_, rfl, rfl, _, rfl, ?_⟩
          generalize g j (.tuple rb) = r at eg hres
          cases r with
          | none =>
            cases hres
            refine ite0 rfl ?_
            exact ⟨⟨_, _, _, rfl⟩, s78.trans sB, eg⟩
          | some pp =>
            obtain ⟨t, rfl, ht⟩ := hres
            refine ite1 rfl ⟨_, rfl, ?_⟩
            refine q _ H12 (hps'.trans sB) ?_
            rw [eW, ← ef, ← eg]
            exact ⟨t, rfl, ht⟩
        · rintro σ H7 ⟨⟨y9, y10, y11, rfl⟩, s7, eg⟩
          rw [List.drop_of_length_le (by omega)] at eg
          rw [← eg] at ef
          exact ⟨⟨_, _, _, _, _, _, _, rfl⟩, s46.trans s7, ef⟩
    · rintro σ H2 ⟨⟨y5, y6, y7, y8, y9, y10, y11, rfl⟩, s2, ef⟩
      refine q .non H2 s2 ?_
      rw [eW, ← ef, List.drop_of_length_le (by omega)]
      rfl
end
end TP
namespace TP
open PySem PySem.Spec PyProof.Rows L2 HX HB HG HU HH HD HS
def flatF {α β : Type} (f : Nat → α → List β) : Nat → List α → List β
  | _, [] => []
  | i, x :: xs => f i x ++ flatF f (i + 1) xs
def placesD : Nat → List PyData → List Int → List (List Int)
  | 0, _, _ => []
  | n + 1, rows, place => flatF (fun i row => (place ++ [(i : Int)]) :: flatF (fun j b => placesD n (rowsD b) (place ++ [(i : Int)] ++ [(j : Int)])) 0 (bodiesD row)) 0 rows
theorem flatF_at {α β : Type} (f : Nat → α → List β) {xs : List α} {i : Nat} (h : i < xs.length) : flatF f i (xs.drop i) = f i xs[i] ++ flatF f (i + 1) (xs.drop (i + 1)) := by
  rw [List.drop_eq_getElem_cons h]
  rfl
theorem firstSome_none {α β : Type} {f : Nat → α → Option β} : ∀ {xs : List α} {i : Nat}, firstSome f i xs = none → ∀ k (h : k < xs.length), f (i + k) xs[k] = none
  | [], _, _, k, h => by cases h
  | x :: xs, i, e, k, h => by
    simp only [firstSome] at e
    cases ef : f i x with
    | some b => rw [ef] at e; cases e
    | none =>
      rw [ef] at e
      cases k with
      | zero => exact ef
      | succ k =>
        have := firstSome_none e k (by simpa using h)
        rw [show i + (k + 1) = i + 1 + k by omega]
        exact this
theorem rowF_none {cs ls hs : List Str} {n : Nat} {place : List Int} {ps : List (Str × Str)} {oft : Int} {i : Nat} {row : PyData} (h : rowF cs ls hs n place ps oft i row = none) : isRowD cs ls hs ps row = true ∧ place.length + 1 ≤ 19 ∧
    firstSome (fun j b => wrongD cs ls hs n (rowsD b) (place ++ [(i : Int)] ++ [(j : Int)]) (arD row ps) (oft + oftD row)) 0 (bodiesD row) = none := by
  unfold rowF at h
  split at h
  · cases h
  · rename_i h1
    split at h
    · cases h
    · refine ⟨?_, ?_, h⟩
      · cases e : isRowD cs ls hs ps row with
        | true => rfl
        | false => exact absurd (.inr e) h1
      · have : ¬ 19 < place.length + 1 := fun e => h1 (.inl e)
        omega
theorem sqt_set {K : PySem.W.Frag} {H : Hp} {t l : Addr} {xs ys zs : List V} (h : SqT K H t xs) (e : H l = some (.lst ys)) : SqT K (upd H l (.lst zs)) t xs := by
  rcases h with (h | ⟨o, h⟩) | h
  · exact .inl (.inl (by rw [upd_ne (fun q => by subst q; rw [e] at h; cases h)]; exact h))
  · exact .inl (.inr ⟨o, by rw [upd_ne (fun q => by subst q; rw [e] at h; cases h)]; exact h⟩)
  · exact .inr h
section
variable {P : Program} {w : World} {K : PySem.W.Frag} {mg : Str → Option Value} {base : Heap}
def PL (K : PySem.W.Frag) (H : Hp) (vs : List V) (ps : List (List Int)) : Prop := Paired (fun v p => ∃ t : Addr, v = .ref t ∧ SqT K H t (p.map V.int)) vs ps
theorem PL.same {K : PySem.W.Frag} {H H' : Hp} {vs : List V} {ps : List (List Int)} (h : PL K H vs ps) (s : Same H H') : PL K H' vs ps := paired_imp (fun _ _ ⟨t, e, h⟩ => ⟨t, e, s.sqt h⟩) h
theorem PL.set {K : PySem.W.Frag} {H : Hp} {vs : List V} {ps : List (List Int)} {l : Addr} {ys zs : List V} (h : PL K H vs ps) (e : H l = some (.lst ys)) : PL K (upd H l (.lst zs)) vs ps := paired_imp (fun _ _ ⟨t, e1, h⟩ => ⟨t, e1, sqt_set h e⟩) h
theorem paired_app {α β : Type} {F : α → β → Prop} : ∀ {l : List α} {m : List β} {l2 : List α} {m2 : List β}, Paired F l m → Paired F l2 m2 → Paired F (l ++ l2) (m ++ m2)
  | _, _, _, _, .nil, h => h
  | _, _, _, _, .cons x t, h => .cons x (paired_app t h)
theorem paired_len {α β : Type} {F : α → β → Prop} : ∀ {l : List α} {m : List β}, Paired F l m → l.length = m.length
  | _, _, .nil => rfl
  | _, _, .cons x t => by rw [List.length_cons, List.length_cons, paired_len t]
def spPlaces (K : PySem.W.Frag) (N n : Nat) : Sp := fun vs H Q _ => ∃ (b pl : Addr) (rows : List PyData) (place : List Int) (cs ls hs : List Str) (ps : List (Str × Str)) (oft : Int), vs = [.ref b, .ref pl] ∧
  Dp K H (.ref b) (.tuple rows) ∧ Good (.tuple rows) n ∧ n ≤ N ∧ SqT K H pl (place.map V.int) ∧ place.length ≤ 20 ∧ wrongD cs ls hs n rows place ps oft = none ∧ (placesD n rows place).length ≤ sizeLine ∧
  ∀ (l : Addr) H' vs, Same H H' → H' l = some (.lst vs) → H l = none → PL K H' vs (placesD n rows place) → Q (.ref l) H'
theorem ok_places (T : Tp K w mg) (N : Nat) (hN : N ≤ 64) : ∀ n, FnOk P w K mg base CX0 (n + 2 + 1) T.f_places T.fd_places ["body", "place"] (spPlaces K N n) := rec_fn (c := 2) (sp := spPlaces K N) fun n ih => by
  refine T.D_places.F.ok sc_places (fun vs H Q E h => ?_) (fun cdv A outer s H vs Q E hr h => ?_)
  · obtain ⟨b, pl, rows, place, cs, ls, hs, ps, oft, rfl, _⟩ := h
    rfl
  · obtain ⟨b, pl, rows, place, cs, ls, hs, ps, oft, rfl, hd, good, hnN, hpl, hp20, hno, hsz, q⟩ := h
    refine ⟨_, (pss_cons (ps_set (i := 2) sc_places.nd rfl (.inl rfl) (pe_lst pa_nil))
  (pss_cons (ps_for PassesOwn.never rfl (HE.pi_enumT (by rfl) T.enumerate (pa_cons (pv 0) pa_nil)) (pg_tup rfl (pgs_cons (pg_name (i := 3) sc_places.nd rfl (.inl rfl)) (pgs_cons (pg_name (i := 4) sc_places.nd rfl (.inl rfl)) pgs_nil)))
  (Evl.pss_cut (ps_set (i := 5) sc_places.nd rfl (.inl rfl) (pe_op HT2.op_catA (pv 1) (pe_tup (pa_cons (pv 3) pa_nil))))
  (pss_cons (ps_expr (pe_bm PySem.F.plainAttrs_list PySem.F.slot_list_append PySem.F.type_list_append mt_append (pv 2) (pa_cons (pv 5) pa_nil)))
  (pss_one (ps_for PassesOwn.never rfl (pi_enum (by rfl) T.enumerate (pa_cons (pcall T.D_bodies (ok_bodies T) (hr.mono (by omega)) (by rfl) (pa_cons (pv 4) pa_nil)) pa_nil)) (pg_tup rfl (pgs_cons (pg_name (i := 6) sc_places.nd rfl (.inl rfl)) (pgs_cons (pg_name (i := 7) sc_places.nd rfl (.inl rfl)) pgs_nil)))
  (pss_one (ps_expr (pe_bm PySem.F.plainAttrs_list PySem.F.slot_list_extend PySem.F.type_list_extend mt_extend (pv 2) (pa_cons (pcall T.D_places ih (hr.mono (by omega)) (by rfl) (pa_cons (pv 7) (pa_cons (pe_op HT2.op_catA (pv 5) (pe_tup (pa_cons (pv 6) pa_nil))) pa_nil))) pa_nil)))))))))
  (pss_one (ps_ret (pv 2))))), ?_⟩
    obtain ⟨m, rfl⟩ : ∃ m, n = m + 1 := by
      have := good.dep
      simp only [PyData.depth] at this
      exact ⟨n - 1, by omega⟩
    obtain ⟨b', xs, e, hx, hall⟩ := dp_tup hd
    cases e
    have lx : xs.length = rows.length := dpAll_len hall
    have eW : wrongD cs ls hs (m + 1) rows place ps oft = firstSome (rowF cs ls hs m place ps oft) 0 rows := rfl
    rw [eW] at hno
    have hno := firstSome_none hno
    generalize hF : (fun (i : Nat) (row : PyData) => (place ++ [(i : Int)]) :: flatF (fun j b => placesD m (rowsD b) (place ++ [(i : Int)] ++ [(j : Int)])) 0 (bodiesD row)) = F
    have eP : placesD (m + 1) rows place = flatF F 0 rows := by rw [← hF]; rfl
    rw [eP] at hsz q
    refine ⟨Nat.zero_le _, fun l nl => ⟨_, rfl, b, xs, rfl, (same_upd nl).sqt hx, for_it (HE.walk_enumT (xs := xs)) (fun i σ H2 => (∃ y3 y4 y5 y6 y7, σ = [some (.ref b), some (.ref pl), some (.ref l), y3, y4, y5, y6, y7]) ∧ Same H H2 ∧ ∃ vs acc, H2 l = some (.lst vs) ∧ PL K H2 vs acc ∧ acc ++ flatF F i (rows.drop i) = flatF F 0 rows) ?_ ?_ ?_ ?_⟩⟩
    · exact ⟨⟨_, _, _, _, _, rfl⟩, same_upd nl, [], [], upd_same, .nil, by rw [List.drop_zero]; rfl⟩
    · rintro i σ H2 _ ⟨_, s2, _⟩
      exact s2.sqt hx
    · rintro i x σ H2 H3 hi ⟨⟨y3, y4, y5, y6, y7, rfl⟩, s2, fs, acc, hl2, hpl2, ef⟩ ⟨Tt, x1, x2, rfl, nT, rfl, g1, g2⟩
      cases g1
      dsimp only at g2
      rw [List.getElem?_eq_getElem hi] at g2
      cases g2
      have hi2 : i < rows.length := by omega
      have sT := same_upd (o := .tup [.int (i : Nat), xs[i]]) nT
      refine ⟨Tt, _, rfl, stt upd_same, rfl, _, _, rfl, _, _, rfl, rfl, ?_⟩
      have hl3 := sT _ _ hl2
      have hpl3 := hpl2.same sT
      have s3 := s2.trans sT
      generalize upd H2 Tt (.tup [.int (i : Nat), xs[i]]) = H3 at s3 hl3 hpl3 ⊢
      rw [flatF_at _ hi2] at ef
      have hni := hno i hi2
      rw [Nat.zero_add] at hni
      obtain ⟨er, hlen, hno2⟩ := rowF_none hni
      have hrow := dpAll_at hall hi hi2
      have grow : Good rows[i] m := good.item (List.getElem_mem hi2)
      generalize rows[i] = row at ef hrow grow er hno2
      generalize xs[i] = xr at hrow ⊢
      obtain ⟨z, ks, ds, R⟩ := row_ok er
      obtain rfl := R.eq
      obtain ⟨ra, rxs, rfl, rx, rall⟩ := dp_tup hrow
      cases rall with
      | cons pz rall =>
      cases pz
      rename_i rxs
      have eb : bodiesD (.tuple (.str z :: ds)) = bodiesV ks ds := by
        show (match kindsOf z with | some ks => _ | none => _) = _
        rw [R.ks_]
      have eF : F i (.tuple (.str z :: ds)) = (place ++ [(i : Int)]) :: flatF (fun j b => placesD m (rowsD b) (place ++ [(i : Int)] ++ [(j : Int)])) 0 (bodiesV ks ds) := by
        rw [← hF]
        dsimp only
        rw [eb]
      rw [eF] at ef
      rw [eb] at hno2
      have hno2 := firstSome_none hno2
      generalize hg : (fun (j : Nat) (b : PyData) => placesD m (rowsD b) (place ++ [(i : Int)] ++ [(j : Int)])) = g at ef
      refine ⟨fun σ H4 => ∃ (hh : Addr), (∃ y6 y7, σ = [some (.ref b), some (.ref pl), some (.ref l), some (.int (i : Nat)), some (.ref ra), some (.ref hh), y6, y7]) ∧ Same H3 H4 ∧ SqT K H4 hh ((place ++ [(i : Int)]).map V.int), ?_, ?_⟩
      · refine ⟨_, rfl, _, rfl, by show 1 ≤ sizeLine; decide, fun p np => ?_⟩
        have s4 := same_upd (o := .tup [.int (i : Nat)]) np
        have hp : (upd H3 p (.tup [.int (i : Nat)])) p = some (.tup [.int (i : Nat)]) := upd_same
        generalize upd H3 p (.tup [.int (i : Nat)]) = H4 at s4 hp ⊢
        refine ⟨pl, p, _, _, rfl, rfl, (s3.trans s4).sqt hpl, stt hp, by rw [List.length_map]; exact Evl.sz_of (by show place.length + 1 ≤ _; omega), fun e => ?_, (fun _ e => nomatch e), fun _ _ p2 np2 => ?_⟩
        · have e0 : place = [] := by cases place <;> first | rfl | cases e
          subst e0
          exact ⟨p, ⟨_, _, rfl⟩, s4, stt hp⟩
        · have s5 := same_upd (o := .tup (place.map V.int ++ [.int (i : Nat)])) np2
          exact ⟨p2, ⟨_, _, rfl⟩, s4.trans s5, stt (by rw [upd_same, List.map_append]; rfl)⟩
      rintro σ H4 ⟨hh, ⟨y6, y7, rfl⟩, s34, hhh⟩
      have hl4 := s34 _ _ hl3
      have hpl4 := hpl3.same s34
      have s4 := s3.trans s34
      have lfs : fs.length = acc.length := paired_len hpl3
      have hn4 : Same H (upd H4 l (.lst (fs ++ [.ref hh]))) := s4.own nl
      refine ⟨_, rfl, .inl ⟨rfl, _, sl hl4⟩, _, rfl, l, fs, .ref hh, rfl, rfl, hl4, ?_, ?_⟩
      · rw [lfs]
        refine Nat.lt_of_lt_of_le ?_ hsz
        rw [← ef, List.length_append, List.length_append, List.length_cons]
        omega
      have hl5 : (upd H4 l (.lst (fs ++ [.ref hh]))) l = some (.lst (fs ++ [.ref hh])) := upd_same
      have hpl5 : PL K (upd H4 l (.lst (fs ++ [.ref hh]))) (fs ++ [.ref hh]) (acc ++ [place ++ [(i : Int)]]) := paired_app (hpl4.set hl4) (.cons ⟨hh, rfl, sqt_set hhh hl4⟩ .nil)
      have hhh5 : SqT K (upd H4 l (.lst (fs ++ [.ref hh]))) hh ((place ++ [(i : Int)]).map V.int) := sqt_set hhh hl4
      generalize upd H4 l (.lst (fs ++ [.ref hh])) = H5 at hn4 hl5 hpl5 hhh5 ⊢
      refine ⟨_, rfl, ra, z, ks, rxs, rfl, hn4.sqt rx, R.ks_, fun lp H6 nlp s6 hlp => ?_⟩
      have s06 := hn4.trans s6
      have hb6 := dpAll_bodies ks rall
      have lb : (bodiesV ks rxs).length = (bodiesV ks ds).length := dpAll_len hb6
      have nll : l ≠ lp := fun e => by subst e; rw [hl5] at nlp; cases nlp
      refine ⟨lp, bodiesV ks rxs, rfl, sl hlp, for_it (walk_enum (xs := bodiesV ks rxs)) (fun j σ H7 => (∃ y6 y7, σ = [some (.ref b), some (.ref pl), some (.ref l), some (.int (i : Nat)), some (.ref ra), some (.ref hh), y6, y7]) ∧ Same H H7 ∧ H7 lp = some (.lst (bodiesV ks rxs)) ∧ SqT K H7 hh ((place ++ [(i : Int)]).map V.int) ∧ ∃ vs acc2, H7 l = some (.lst vs) ∧ PL K H7 vs acc2 ∧ acc2 ++ flatF g j ((bodiesV ks ds).drop j) = acc ++ (place ++ [(i : Int)]) :: flatF g 0 (bodiesV ks ds)) ?_ ?_ ?_ ?_⟩
      · exact ⟨⟨_, _, rfl⟩, s06, hlp, s6.sqt hhh5, _, _, s6 _ _ hl5, hpl5.same s6, by rw [List.drop_zero, List.append_assoc]; rfl⟩
      · rintro j σ H7 _ ⟨_, _, h7, _⟩
        exact sl h7
      · rintro j x σ H7 H8 hj ⟨⟨y6, y7, rfl⟩, s7, hlp7, hhh7, fs7, acc7, hl7, hpl7, ef7⟩ ⟨T2, x1, x2, rfl, nT2, rfl, g1, g2⟩
        cases g1
        dsimp only at g2
        rw [List.getElem?_eq_getElem hj] at g2
        cases g2
        have hj2 : j < (bodiesV ks ds).length := by omega
        have sT2 := same_upd (o := .tup [.int (j : Nat), (bodiesV ks rxs)[j]]) nT2
        refine ⟨T2, _, rfl, stt upd_same, rfl, _, _, rfl, _, _, rfl, rfl, ?_⟩
        rw [flatF_at _ hj2] at ef7
        have hl8 := sT2 _ _ hl7
        have hlp8 := sT2 _ _ hlp7
        have hpl8 := hpl7.same sT2
        have hhh8 := sT2.sqt hhh7
        have s8 := s7.trans sT2
        generalize upd H7 T2 (.tup [.int (j : Nat), (bodiesV ks rxs)[j]]) = H8 at s8 hl8 hlp8 hpl8 hhh8 ⊢
        have hbm : (bodiesV ks ds)[j] ∈ bodiesV ks ds := List.getElem_mem hj2
        have ebt := bodies_parts (P := fun d => d = .tuple (rowsD d)) (fun q hq hk => part_body (by have := R.parts q hq; rw [hk] at this; exact this)) _ hbm
        have gb : Good (bodiesV ks ds)[j] m := by
          obtain ⟨m', hm⟩ : ∃ m', m = m' + 1 := by
            have := grow.dep
            simp only [PyData.depth] at this
            exact ⟨m - 1, by omega⟩
          subst hm
          exact (grow.item (List.mem_cons_of_mem _ (bodiesV_mem hbm))).mono (by omega)
        have hb8 := dpAll_at hb6 hj hj2
        have hnj := hno2 j hj2
        rw [Nat.zero_add] at hnj
        have egj : g j (bodiesV ks ds)[j] = placesD m (rowsD (bodiesV ks ds)[j]) (place ++ [(i : Int)] ++ [(j : Int)]) := by rw [← hg]
        rw [egj] at ef7
        generalize (bodiesV ks ds)[j] = b0 at hb8 ef7 ebt gb hnj
        generalize (bodiesV ks rxs)[j] = vb at hb8 ⊢
        generalize rowsD b0 = rb at ebt hnj ef7
        subst ebt
        obtain ⟨bb, bxs, rfl, _, _⟩ := dp_tup (id hb8)
        refine ⟨_, rfl, .inl ⟨rfl, _, sl hl8⟩, _, rfl, _, rfl, _, rfl, by show 1 ≤ sizeLine; decide, fun p np => ?_⟩
        have s9 := same_upd (o := .tup [.int (j : Nat)]) np
        have hp9 : (upd H8 p (.tup [.int (j : Nat)])) p = some (.tup [.int (j : Nat)]) := upd_same
        generalize upd H8 p (.tup [.int (j : Nat)]) = H9 at s9 hp9 ⊢
        refine ⟨hh, p, _, _, rfl, rfl, s9.sqt hhh8, stt hp9, by rw [List.length_map, List.length_append, List.length_singleton]; exact Evl.sz_of (by show place.length + 1 + 1 ≤ _; omega), (fun e => by simp at e), (fun _ e => nomatch e), fun _ _ p2 np2 => ?_⟩
        have s10 := same_upd (o := .tup ((place ++ [(i : Int)]).map V.int ++ [.int (j : Nat)])) np2
        have hp10 : SqT K (upd H9 p2 (.tup ((place ++ [(i : Int)]).map V.int ++ [.int (j : Nat)]))) p2 ((place ++ [(i : Int)] ++ [(j : Int)]).map V.int) := stt (by rw [upd_same, List.map_append (l₁ := place ++ [(i : Int)])]; rfl)
        generalize upd H9 p2 (.tup ((place ++ [(i : Int)]).map V.int ++ [.int (j : Nat)])) = H10 at s10 hp10 ⊢
        have s810 := s9.trans s10
        have sA := s8.trans s810
        have hlen7 : acc7.length + (placesD m rb (place ++ [(i : Int)] ++ [(j : Int)])).length ≤ sizeLine := by
          refine Nat.le_trans ?_ hsz
          rw [← ef]
          have := congrArg List.length ef7
          simp only [List.length_append, List.length_cons] at this ⊢
          omega
        refine ⟨bb, p2, rb, _, cs, ls, hs, _, _, rfl, sA.dp hb8, gb, by omega, hp10, by rw [List.length_append, List.length_append, List.length_singleton, List.length_singleton]; omega, hnj, by omega, fun lr H11 vs s11 hlr nlr hplr => ?_⟩
        have hl11 := s11 _ _ (s810 _ _ hl8)
        have nlr2 : lr ≠ l := fun e => by subst e; rw [s810 _ _ hl8] at nlr; cases nlr
        have s811 := s810.trans s11
        refine ⟨l, lr, fs7, vs, rfl, rfl, hl11, hlr, ?_, ?_⟩
        · rw [paired_len hpl8, paired_len hplr]
          exact hlen7
        refine ⟨⟨_, _, rfl⟩, (s8.trans s811).own nl, ?_, sqt_set (s811.sqt hhh8) hl11, _, acc7 ++ placesD m rb (place ++ [(i : Int)] ++ [(j : Int)]), upd_same, paired_app ((hpl8.same s811).set hl11) (hplr.set hl11), ?_⟩
        · rw [upd_ne (fun e => nll e.symm)]
          exact s811 _ _ hlp8
        · rw [List.append_assoc]
          exact ef7
      · rintro σ H7 ⟨⟨y6, y7, rfl⟩, s7, hlp7, hhh7, fs7, acc7, hl7, hpl7, ef7⟩
        rw [List.drop_of_length_le (by omega)] at ef7
        refine ⟨⟨_, _, _, _, _, rfl⟩, s7, fs7, acc7, hl7, hpl7, ?_⟩
        rw [show acc7 = acc7 ++ flatF g (bodiesV ks rxs).length [] from (List.append_nil _).symm, ef7, ← ef, List.append_assoc]
    · rintro σ H2 ⟨⟨y3, y4, y5, y6, y7, rfl⟩, s2, fs, acc, hl2, hpl2, ef⟩
      rw [List.drop_of_length_le (by omega)] at ef
      refine ⟨_, rfl, q l H2 fs s2 hl2 nl ?_⟩
      rw [← ef]
      exact (List.append_nil acc).symm ▸ hpl2
end
end TP
namespace TP
open PySem PySem.Spec PyProof.Rows L2 HX HB HG HU HH HD HS
section
variable {P : Program} {w : World} {K : PySem.W.Frag} {mg : Str → Option Value} {base : Heap}
def firstD (cs ls hs : List Str) (n : Nat) : PyData → Option (List Int)
  | .tuple rows => wrongD cs ls hs n rows [] [] 0
  | _ => some []
theorem merge3 (x y z : V) : mergeK [] [((Sum.inr "cell" : Key), x), (Sum.inr "lock", y), (Sum.inr "channel", z)] = ([(Sum.inr "cell", x), (Sum.inr "lock", y), (Sum.inr "channel", z)] : List (Key × V)) := rfl
def spFirst (K : PySem.W.Frag) (N : Nat) : Sp := fun vs H Q _ => ∃ (v : V) (d : PyData) (c l h : Addr) (cs ls hs : List Str), vs = [v, .ref c, .ref l, .ref h] ∧
  Dp K H v d ∧ Good d N ∧ SqT K H c (cs.map V.str) ∧ SqT K H l (ls.map V.str) ∧ SqT K H h (hs.map V.str) ∧
  ∀ v H', Same H H' → Res K H' (firstD cs ls hs N d) v → Q v H'
theorem ok_first (T : Tp K w mg) (N : Nat) (hN : N ≤ 64) : FnOk P w K mg base CX0 (N + (N + 4) + 2) T.f_first T.fd_first ["body", "cells", "locks", "channels"] (spFirst K N) := by
  refine T.D_first.ok sc_first (fun vs H Q E h => ?_) (fun cdv A outer s H vs Q E hr h => ?_)
  · obtain ⟨v, d, c, l, h, cs, ls, hs, rfl, _⟩ := h
    rfl
  · obtain ⟨v, d, c, l, h, cs, ls, hs, rfl, hd, good, hc, hl, hh, q⟩ := h
    refine ⟨_, (pss_cons (ps_if (pt_not (pt_val (pe_callB call_isi (by rfl) T.isinstance (by decide +kernel) (pa_cons (pv 0) (pa_cons (pe_bltn (v := .ty "tuple") (by rfl) T.tuple (by decide +kernel) rfl) pa_nil)))))
  (pss_one (ps_ret (pe_tup pa_nil)))
  pss_nil)
  (pss_one (ps_ret (pcall T.D_wrong (ok_wrong T N hN N) (hr.mono (by omega)) (by rfl) (pa_cons (pv 0) (pa_cons (pe_tup pa_nil) (pa_cons (pe_disp (pps_cons pe_str (pv 1) (pps_cons pe_str (pv 2) (pps_cons pe_str (pv 3) pps_nil))) (by rfl) (by rfl) (fun z => by cases z) (by decide)) (pa_cons (pe_tup pa_nil) (pa_cons pe_int pa_nil))))))))), ?_⟩
    obtain ⟨ty, kin⟩ := dp_ty hd
    refine ⟨_, rfl, _, _, _, _, _, rfl, .ty "tuple", ty, kit_dat (by decide) kin, _, rfl, ?_⟩
    by_cases ht : kindD d = "tuple"
    · refine ite0 (by rw [decide_eq_true ht]; rfl) ?_
      obtain ⟨ds, rfl⟩ : ∃ ds, d = .tuple ds := by cases d <;> simp [kindD] at ht ⊢
      obtain ⟨a, xs, rfl, hx, hall⟩ := dp_tup hd
      refine ⟨_, rfl, Nat.zero_le _, fun p np => ?_⟩
      have s1 := same_upd (o := .tup []) np
      have hp : (upd H p (.tup [])) p = some (.tup []) := upd_same
      generalize upd H p (.tup []) = H1 at s1 hp ⊢
      intro kd nkd
      have s2 := s1.trans (same_upd (o := .dK []) nkd)
      have hp2 := (same_upd (o := .dK []) nkd) _ _ hp
      have hkd : (upd H1 kd (.dK [])) kd = some (.dK []) := upd_same
      generalize hH2 : upd H1 kd (.dK []) = H2 at s2 hp2 hkd ⊢
      have nkH : H kd = none := s1.free nkd
      refine ⟨_, rfl, _, rfl, _, rfl, hkd, [(Sum.inr "cell", .ref c), (Sum.inr "lock", .ref l), (Sum.inr "channel", .ref h)], rfl, by show 3 ≤ 15; decide, ?_⟩
      have s3 : Same H (upd H2 kd (.dK [(Sum.inr "cell", .ref c), (Sum.inr "lock", .ref l), (Sum.inr "channel", .ref h)])) := s2.own nkH
      have hk3 : (upd H2 kd (.dK [(Sum.inr "cell", .ref c), (Sum.inr "lock", .ref l), (Sum.inr "channel", .ref h)])) kd = some (.dK [(Sum.inr "cell", .ref c), (Sum.inr "lock", .ref l), (Sum.inr "channel", .ref h)]) := upd_same
      have hp3 : (upd H2 kd (.dK [(Sum.inr "cell", .ref c), (Sum.inr "lock", .ref l), (Sum.inr "channel", .ref h)])) p = some (.tup []) := by rw [upd_ne (fun e => by subst e; rw [hkd] at hp2; cases hp2)]; exact hp2
      rw [merge3]
      generalize upd H2 kd (.dK [(Sum.inr "cell", .ref c), (Sum.inr "lock", .ref l), (Sum.inr "channel", .ref h)]) = H3 at s3 hk3 hp3 ⊢
      refine ⟨Nat.zero_le _, fun p2 np2 => ?_⟩
      have s34 := same_upd (o := .tup []) np2
      have hp24 : (upd H3 p2 (.tup [])) p2 = some (.tup []) := upd_same
      generalize upd H3 p2 (.tup []) = H4 at s34 hp24 ⊢
      have s4 := s3.trans s34
      refine ⟨a, p, kd, p2, ds, [], cs, ls, hs, [], 0, rfl, s4.dp hd, good, Nat.le_refl _, ⟨c, l, h, s34 _ _ hk3, s4.sqt hc, s4.sqt hl, s4.sqt hh⟩, ⟨⟨[], stt hp24, .nil⟩, Nat.zero_le _⟩, s34.sqt (stt hp3), Nat.zero_le _, Nat.zero_le _, by decide, by decide, fun v H5 s5 hr => q v H5 (s4.trans s5) hr⟩
    · refine ite1 (by rw [decide_eq_false ht]; rfl) ?_
      refine ⟨Nat.zero_le _, fun p np => q _ _ (same_upd np) ?_⟩
      have e : firstD cs ls hs N d = some [] := by cases d <;> first | rfl | exact absurd rfl ht
      rw [e]
      exact ⟨p, rfl, stt upd_same⟩
end
end TP
namespace TP
open PySem PySem.Spec PyProof.Rows L2 HX HB HG HU HH HD HS
section
variable {P : Program} {w : World} {K : PySem.W.Frag} {mg : Str → Option Value} {base : Heap}
def sizesD (l u : Int) (kvs : List (Str × Int)) : Bool := decide (kvs.length ≤ 4) && kvs.all fun q => isNameL q.1 && decide (l ≤ q.2 ∧ q.2 ≤ u)
def spSizes (K : PySem.W.Frag) : Sp := fun vs H Q _ => ∃ (a : Addr) (kvs : List (Str × Int)) (l u : Int), vs = [.ref a, .int l, .int u] ∧
  H a = some (.dK (kvs.map fun q => (Sum.inr q.1, V.int q.2))) ∧ (kvs.map (·.1)).Nodup ∧ kvs.length ≤ 100 ∧ (∀ q ∈ kvs, okD (.str q.1) = true ∧ okD (.int q.2) = true) ∧
  ∀ H', Same H H' → Q (.bl (sizesD l u kvs)) H'
theorem ok_sizes (T : Tp K w mg) : FnOk P w K mg base CX0 3 T.f_sizes T.fd_sizes ["thing", "least", "most"] (spSizes K) := by
  refine T.D_sizes.F.ok sc_sizes (fun vs H Q E h => ?_) (fun cdv A outer s H vs Q E hr h => ?_)
  · obtain ⟨a, kvs, l, u, rfl, _⟩ := h
    rfl
  · obtain ⟨a, kvs, l, u, rfl, ha, hnd, hz, hok, q⟩ := h
    refine ⟨_, (pss_cons (ps_if (PW.pt (pw_or (pt_not (pt_val (pe_callB call_isi (by rfl) T.isinstance (by decide +kernel) (pa_cons (pv 0) (pa_cons (pe_bltn (v := .ty "dict") (by rfl) T.dict (by decide +kernel) rfl) pa_nil))))) (pw_or1 (pt_cmpR op_gt (pe_callB call_lenD (by rfl) T.len PySem.boot_len (pa_cons (pv 0) pa_nil)) (pe_gi (by rfl) T.c_MOST_NAMES) (nomark _)))))
  (pss_one (ps_ret pe_bl))
  pss_nil)
  (pss_one (ps_ret (pe_callB (cr_all rfl) (by rfl) T.all (by decide +kernel) (pa_cons (pe_lock (pe_lc (own := [("name", 3), ("size", 4)]) (g := gTup K 2 (gCons (gName 3) (gCons (gName 4) gNil))) (by rfl) sc_sizes.nd (pi_items (pv 0)) (blkOk_by (own := [("name", 3), ("size", 4)]) (N := ["thing", "least", "most", "name", "size"]) (sc := defScope s_sizes) (by decide +kernel)) (fun _ _ _ _ _ => (pg_tup rfl (pgs_cons (pg_name (i := 3) sc_sizes.nd rfl (.inl rfl)) (pgs_cons (pg_name (i := 4) sc_sizes.nd rfl (.inl rfl)) pgs_nil)))) (fun _ _ _ _ _ => pts_nil) (fun _ _ _ _ _ => (pe_and (pcall T.D_isname (ok_isname T) (hr.mono (by decide)) (by rfl) (pa_cons (pv 3) pa_nil)) (pe_and (pcall T.D_isnum (ok_isnum T) (hr.mono (by decide)) (by rfl) (pa_cons (pv 4) pa_nil)) (pe_one (pe_chain op_le op_le (pv 1) (pv 4) (pv 2)))))))) pa_nil))))), ?_⟩
    have tyD : TyX K H (.ref a) (.type "dict") := .base (.dK ha)
    refine ⟨_, rfl, _, _, _, _, true, rfl, .ty "dict", tyD, kit_ty (by decide +kernel), _, rfl, ?_⟩
    refine ite0 rfl ⟨_, rfl, a, _, rfl, ha, _, _, rfl, rfl, _, rfl, ?_⟩
    rw [List.length_map]
    have eD : decide ((4 : Int) < (kvs.length : Nat)) = !decide (kvs.length ≤ 4) := by
      by_cases h : kvs.length ≤ 4
      · rw [decide_eq_true h, decide_eq_false (by omega)]; rfl
      · rw [decide_eq_false h, decide_eq_true (by omega)]; rfl
    refine ite2 (fun h4 => ?_) (fun h4 => ?_)
    · have h4 := of_decide_eq_true h4
      have e : sizesD l u kvs = false := by
        unfold sizesD
        rw [decide_eq_false (by omega : ¬ kvs.length ≤ 4)]
        rfl
      rw [e] at q
      exact q H (Same.refl _)
    · have h4 : kvs.length ≤ 4 := by
        have : ¬ (4 : Int) < (kvs.length : Nat) := fun z => h4 (decide_eq_true z)
        omega
      have e : sizesD l u kvs = kvs.all fun q => isNameL q.1 && decide (l ≤ q.2 ∧ q.2 ≤ u) := by
        unfold sizesD
        rw [decide_eq_true h4]
        rfl
      rw [e] at q
      refine ⟨a, _, ha, True.intro, fun od => ?_⟩
      refine ⟨_, rfl, a, od, _, rfl, upd_same, fun L nL => ?_⟩
      have LD : L ≠ a := fun e => by rw [e, upd_same] at nL; cases nL
      generalize eF : upd H a (.frz od (.dK (kvs.map fun q => (Sum.inr q.1, V.int q.2)))) = HF at nL ⊢
      have hDF : HF a = some (.frz od (.dK (kvs.map fun q => (Sum.inr q.1, V.int q.2)))) := by rw [← eF, upd_same]
      refine lc_it (walk_items (kvs := kvs.map fun q => (Sum.inr q.1, V.int q.2))) (fun i H6 => Same HF H6 ∧ H6 L = some (.lst (((kvs.take i).map fun q => isNameL q.1 && decide (l ≤ q.2 ∧ q.2 ≤ u)).map V.bl))) ⟨same_upd nL, upd_same⟩ (fun i H6 _ g => g.1 _ _ hDF) ?_ ?_
      · rintro i x H3 H6 hi ⟨sm, hL⟩ ⟨Tt, x1, x2, rfl, nT, rfl, g1, g2⟩
        have hi1 : i < kvs.length := by rw [List.length_map] at hi; exact hi
        dsimp only at g1 g2
        rw [List.getElem?_map, List.getElem?_eq_getElem hi1] at g1 g2
        cases g1
        cases g2
        have smT := same_upd (o := .tup [.str kvs[i].1, .int kvs[i].2]) nT
        have fin : ∀ H' b, Same H3 H' → b = (isNameL kvs[i].1 && decide (l ≤ kvs[i].2 ∧ kvs[i].2 ≤ u)) → ∃ acc, H' L = some (.lst acc) ∧ acc.length < sizeLine ∧ Same HF (upd H' L (.lst (acc ++ [V.bl b]))) ∧ (upd H' L (.lst (acc ++ [V.bl b]))) L = some (.lst (((kvs.take (i + 1)).map fun q => isNameL q.1 && decide (l ≤ q.2 ∧ q.2 ≤ u)).map V.bl)) := fun H' b s' eb => by
          refine ⟨_, s' _ _ hL, by rw [List.length_map, List.length_map]; exact small1000 (Nat.le_trans (List.length_take_le _ _) (by omega)), (sm.trans s').own nL, ?_⟩
          rw [upd_same, List.take_add_one, List.getElem?_eq_getElem hi1, List.map_append, List.map_append, eb]
          rfl
        refine ⟨Tt, _, rfl, stt upd_same, rfl, _, _, rfl, _, _, rfl, rfl, rfl, ?_⟩
        refine ⟨_, rfl, _, .str kvs[i].1, rfl, .str _, (hok _ (List.getElem_mem hi1)).1, fun H7 s7 => ⟨_, rfl, ?_⟩⟩
        show if isNameL kvs[i].1 = true then _ else _
        cases en : isNameL kvs[i].1 with
        | false => exact fin _ _ (smT.trans s7) (by rw [en]; rfl)
        | true =>
          refine ⟨_, rfl, _, .int kvs[i].2, rfl, .int _, (hok _ (List.getElem_mem hi1)).2, fun H8 s8 => ⟨_, rfl, ?_⟩⟩
          refine ⟨_, rfl, _, rfl, _, _, rfl, rfl, _, rfl, ?_⟩
          have s38 := (smT.trans s7).trans s8
          refine ite2 (fun hl => ?_) (fun hl => ?_)
          · have hl := of_decide_eq_true hl
            refine ⟨_, rfl, _, _, rfl, rfl, fin _ _ s38 ?_⟩
            rw [en, Bool.true_and]
            exact decide_eq_decide.mpr ⟨fun h => ⟨hl, h⟩, fun h => h.2⟩
          · refine fin _ _ s38 ?_
            rw [en, Bool.true_and, decide_eq_false (fun h => hl (decide_eq_true h.1))]
      · rintro H6 ⟨sm, hL⟩
        rw [List.length_map, List.take_length] at hL
        refine ⟨sm _ _ hDF, ?_⟩
        have sF : Same H (upd H6 a (.dK (kvs.map fun q => (Sum.inr q.1, V.int q.2)))) := fun b o e => by
          by_cases eb : b = a
          · subst eb; rw [upd_same]; rw [ha] at e; exact e
          · rw [upd_ne eb]
            refine sm b o ?_
            rw [← eF, upd_ne eb]
            exact e
        refine ⟨L, _, rfl, sl (by rw [upd_ne LD]; exact hL), ?_⟩
        rw [List.all_map]
        exact q _ sF
end
end TP
namespace TP
open PySem PySem.Spec PyProof.Rows L2 HX HB HG HU HH HD HS HV
section
variable {P : Program} {w : World} {K : PySem.W.Frag} {mg : Str → Option Value} {base : Heap}
def locksD (zs : List Str) : Bool := decide (zs.length ≤ 4) && (zs.all isNameL && decide zs.Nodup)
def spLocks (K : PySem.W.Frag) : Sp := fun vs H Q _ => ∃ (a : Addr) (zs : List Str), vs = [.ref a] ∧
  H a = some (.lst (zs.map V.str)) ∧ zs.length ≤ 100 ∧ (∀ z ∈ zs, okD (.str z) = true) ∧
  ∀ H', Same H H' → Q (.bl (locksD zs)) H'
theorem ok_locks (T : Tp K w mg) : FnOk P w K mg base CX0 3 T.f_locks T.fd_locks ["thing"] (spLocks K) := by
  refine T.D_locks.F.ok sc_locks (fun vs H Q E h => ?_) (fun cdv A outer s H vs Q E hr h => ?_)
  · obtain ⟨a, zs, rfl, _⟩ := h
    rfl
  · obtain ⟨a, zs, rfl, ha, hz, hok, q⟩ := h
    refine ⟨_, (pss_cons (ps_if (PW.pt (pw_or (pt_not (pt_val (pe_callB call_isi (by rfl) T.isinstance (by decide +kernel) (pa_cons (pv 0) (pa_cons (pe_bltn (v := .ty "list") (by rfl) T.list (by decide +kernel) rfl) pa_nil))))) (pw_or1 (pt_cmpR op_gt (pe_callB call_len_seq (by rfl) T.len PySem.boot_len (pa_cons (pv 0) pa_nil)) (pe_gi (by rfl) T.c_MOST_NAMES) (nomark _)))))
  (pss_one (ps_ret pe_bl))
  pss_nil)
  (pss_one (ps_ret (pe_and (pe_callB (cr_all rfl) (by rfl) T.all (by decide +kernel) (pa_cons (pe_lc (own := [("name", 1)]) (g := gName 1) (by rfl) sc_locks.nd (pi_list (pv 0)) (blkOk_by (own := [("name", 1)]) (N := ["thing", "name"]) (sc := defScope s_locks) (by decide +kernel)) (fun _ _ _ _ _ => (pg_name (i := 1) sc_locks.nd rfl (.inl rfl))) (fun _ _ _ _ _ => pts_nil) (fun _ _ _ _ _ => (pcall T.D_isname (ok_isname T) (hr.mono (by decide)) (by rfl) (pa_cons (pv 1) pa_nil)))) pa_nil)) (pe_one (pe_cmpR op_eq (HV.pe_lenSetS (by rfl) T.len (by rfl) T.set (pv 0)) (pe_callB call_len_seq (by rfl) T.len PySem.boot_len (pa_cons (pv 0) pa_nil)) (nomark _))))))), ?_⟩
    have tyD : TyX K H (.ref a) (.type "list") := .base (.lst ha)
    refine ⟨_, rfl, _, _, _, _, true, rfl, .ty "list", tyD, kit_ty (by decide +kernel), _, rfl, ?_⟩
    refine ite0 rfl ⟨_, rfl, a, _, rfl, .inl (sl ha), _, _, rfl, rfl, _, rfl, ?_⟩
    rw [List.length_map]
    refine ite2 (fun h4 => ?_) (fun h4 => ?_)
    · have h4 := of_decide_eq_true h4
      have e : locksD zs = false := by
        unfold locksD
        rw [decide_eq_false (by omega : ¬ zs.length ≤ 4)]
        rfl
      rw [e] at q
      exact q H (Same.refl _)
    · have h4 : zs.length ≤ 4 := by
        have : ¬ (4 : Int) < (zs.length : Nat) := fun z => h4 (decide_eq_true z)
        omega
      have e : locksD zs = (zs.all isNameL && decide zs.Nodup) := by
        unfold locksD
        rw [decide_eq_true h4]
        rfl
      rw [e] at q
      refine ⟨_, rfl, a, rfl, ⟨_, sl ha⟩, fun L nL => ?_⟩
      refine lc_it (walk_list (xs := zs.map V.str)) (fun i H6 => Same H H6 ∧ H6 L = some (.lst (((zs.take i).map isNameL).map V.bl))) ⟨same_upd nL, upd_same⟩ (fun i H6 _ g => sl (g.1 _ _ ha)) ?_ ?_
      · rintro i x H3 H6 hi ⟨sm, hL⟩ ⟨rfl, g1⟩
        have hi1 : i < zs.length := by rw [List.length_map] at hi; exact hi
        rw [List.getElem?_map, List.getElem?_eq_getElem hi1] at g1
        cases g1
        refine ⟨rfl, _, rfl, _, .str zs[i], rfl, .str _, hok _ (List.getElem_mem hi1), fun H7 s7 => ?_⟩
        refine ⟨_, s7 _ _ hL, by rw [List.length_map, List.length_map]; exact small1000 (Nat.le_trans (List.length_take_le _ _) (by omega)), (sm.trans s7).own nL, ?_⟩
        rw [upd_same, List.take_add_one, List.getElem?_eq_getElem hi1, List.map_append, List.map_append]
        rfl
      · rintro H6 ⟨sm, hL⟩
        rw [List.length_map, List.take_length] at hL
        refine ⟨L, _, rfl, sl hL, ?_⟩
        rw [List.all_map]
        refine ⟨_, rfl, ?_⟩
        have ec : zs.all ((fun v => (match v with | V.bl b => b | _ => false)) ∘ V.bl ∘ isNameL) = zs.all isNameL := rfl
        refine ite2 (fun h => ?_) (fun h => ?_)
        · refine ⟨_, rfl, a, zs, rfl, sl (sm _ _ ha), by omega, _, rfl, a, _, rfl, .inl (sl (sm _ _ ha)), ?_⟩
          refine ⟨rfl, ?_⟩
          have h : zs.all isNameL = true := h
          have eu : decide (V.int (uq zs zs.length : Nat) = V.int ((zs.map V.str).length : Nat)) = decide zs.Nodup := by
            have := uq_all (xs := zs) zs.length (Nat.le_refl _)
            rw [List.take_length] at this
            rw [List.length_map]
            exact decide_eq_decide.mpr ⟨fun e => this.mp (by have := V.int.inj e; omega), fun e => by rw [this.mpr e]⟩
          rw [eu]
          rw [h, Bool.true_and] at q
          exact q H6 sm
        · have h : zs.all isNameL = false := by
            cases e : zs.all isNameL with
            | true => exact absurd e h
            | false => rfl
          rw [h] at q
          exact q H6 sm
end
end TP
namespace TP
open PySem PySem.Spec PyProof.Rows L2 HX HB HG HU HH HD HS HV HQ
section
variable {P : Program} {w : World} {K : PySem.W.Frag} {mg : Str → Option Value} {base : Heap}
theorem ok_np (T : Tp K w mg) : FnOk P w K mg base CX0 1 T.f_np T.fd_np ["self", "place"] (spEx T.C_NoProgram "place") := by
  refine T.D_np.ok sc_np (fun vs H Q E h => ?_) (fun cdv A outer s H vs Q E hr h => ?_)
  · obtain ⟨a, y, rfl, _⟩ := h
    rfl
  · obtain ⟨a, y, rfl, ha, q⟩ := h
    refine ⟨_, (pss_cons (ps_expr (HY.pe_baseinit T.bs_YardError (by rfl) T.gC_YardError (pa_cons (pv 0) (pa_cons pe_str pa_nil))))
  (pss_one (ps_ost (pv 0) (pv 1)))), ?_⟩
    exact ⟨_, rfl, a, T.C_NoProgram, [.str "no program"], rfl, by decide, T.x_NoProgram, ha, _, rfl, _, rfl, a, T.C_NoProgram, rfl, T.x_NoProgram, T.na_NoProgram_place, .inl ⟨ha, q⟩⟩
theorem kb_first (T : Tp K w mg) : KBn K T.fd_first ["body", "cells", "locks", "channels"] 1 ["cells", "locks", "channels"] (fun us ws => us ++ ws) (fun vs zs => vs ++ zs) := by
  obtain ⟨mv, h⟩ := T.D_first.kbinds0 (ps := ["body", "cells", "locks", "channels"]) 1 ["cells", "locks", "channels"] [] (fun us _ ws => us ++ ws) (List.cons_ne_nil _ _) (fun q h => by cases h) (fun a _ c => a.append c)
    (fun D doc pm an cdv ct us mv ws h1 h2 h3 => match us, ws, mv, h1, h2, h3 with | [_], [_, _, _], [], _, _, _ => rfl)
  exact h
/-! ### a program -/
def dI (kvs : List (Str × Int)) : List (Key × V) := kvs.map fun q => (Sum.inr q.1, V.int q.2)
def ArgD (H : Hp) (v : V) (kvs : List (Str × Int)) : Prop := (v = .non ∧ kvs = []) ∨ ∃ a, v = .ref a ∧ H a = some (.dK (dI kvs))
def ArgL (H : Hp) (v : V) (zs : List Str) : Prop := (v = .non ∧ zs = []) ∨ ∃ a, v = .ref a ∧ H a = some (.lst (zs.map V.str))
structure OkD (kvs : List (Str × Int)) : Prop where
  nd : (kvs.map (·.1)).Nodup
  few : kvs.length ≤ 100
  ok : ∀ q ∈ kvs, okD (.str q.1) = true ∧ okD (.int q.2) = true
structure PObj (K : PySem.W.Frag) (H0 H : Hp) (p C : Addr) (b : V) (cs : List (Str × Int)) (ls : List Str) (ws : List (Str × Int)) (spots : List (List Int)) : Prop where
  ex : ∃ (dx s f l w : Addr) (vs : List V), H p = some (.ins C dx [("spots", .ref s), ("tree", b), ("first", .ref f), ("bolts", .ref l), ("widths", .ref w)]) ∧ H s = some (.lst vs) ∧ PL K H vs spots ∧ H f = some (.dK (dI cs)) ∧ H l = some (.lst (ls.map V.str)) ∧ H w = some (.dK (dI ws)) ∧ s ≠ l ∧ f ≠ w ∧ H0 s = none ∧ H0 f = none ∧ H0 l = none ∧ H0 w = none
def progD (N : Nat) (cs : List (Str × Int)) (ls : List Str) (ws : List (Str × Int)) (d : PyData) : Option (List Int) :=
  if sizesD (-99) 99 cs && (locksD ls && sizesD 1 4 ws) then
    match firstD (cs.map (·.1)) ls (ws.map (·.1)) N d with
    | some pl => some pl
    | none => if (placesD N (rowsD d) []).length ≤ 60 then none else some []
  else some []
/-- all but this instance stand -/
def V1 (p : Addr) (H H' : Hp) : Prop := ∀ b o, H b = some o → b ≠ p → H' b = some o
theorem V1.of {p : Addr} {H H' : Hp} (s : Same H H') : V1 p H H' := fun b o h _ => s b o h
theorem V1.trans {p : Addr} {H H' H'' : Hp} (a : V1 p H H') (s : Same H' H'') : V1 p H H'' := fun b o h e => s b o (a b o h e)
theorem V1.set {p : Addr} {H H' : Hp} (a : V1 p H H') {o : HO} : V1 p H (upd H' p o) := fun b x h e => by rw [upd_ne e]; exact a b x h e
theorem V1.free {p : Addr} {H H' : Hp} (v : V1 p H H') {b : Addr} (n : H' b = none) {o : HO} (hp : H' p = some o) : H b = none := by
  cases e : H b with
  | none => rfl
  | some x =>
    by_cases hb : b = p
    · subst hb; rw [hp] at n; cases n
    · rw [v b x e hb] at n; cases n
theorem sqt_kept {K : PySem.W.Frag} {H H' : Hp} (k : ∀ a o, H a = some o → (∀ C dx fs, o ≠ .ins C dx fs) → H' a = some o) {a : Addr} {xs : List V} (h : SqT K H a xs) : SqT K H' a xs := by
  rcases h with (h | ⟨o, h⟩) | h
  · exact .inl (.inl (k _ _ h (by intro _ _ _ z; cases z)))
  · exact .inl (.inr ⟨o, k _ _ h (by intro _ _ _ z; cases z)⟩)
  · exact .inr h
def spProg (K : PySem.W.Frag) (N : Nat) (C CE : Addr) : Sp := fun vs H Q E => ∃ (p dx : Addr) (b : V) (d : PyData) (vc vl vw : V) (cs : List (Str × Int)) (ls : List Str) (ws : List (Str × Int)), vs = [.ref p, b, vc, vl, vw] ∧
  H p = some (.ins C dx []) ∧ Dp K H b d ∧ Good d N ∧ ArgD H vc cs ∧ OkD cs ∧ ArgL H vl ls ∧ ls.length ≤ 100 ∧ (∀ z ∈ ls, okD (.str z) = true) ∧ ArgD H vw ws ∧ OkD ws ∧ (placesD N (rowsD d) []).length ≤ sizeLine ∧
  ∀ H', V1 p H H' → match progD N cs ls ws d with
    | some pl => ∀ t dd : Addr, SqT K H' t (pl.map V.int) → H' dd = some (.xd [("place", .ref t)]) → H dd = none → E (.ref CE) (some dd) H'
    | none => PObj K H H' p C b cs ls ws (placesD N (rowsD d) []) → Q .non H'
theorem ok_prog (T : Tp K w mg) (N : Nat) (hN : N ≤ 64) : FnOk P w K mg base (L2.CX P w) (N + (N + 4) + 2 + 1) T.f_prog T.fd_prog ["self", "body", "cells", "locks", "channels"] (spProg K N T.C_Program T.C_NoProgram) := by
  refine T.D_prog.ok sc_prog (fun vs H Q E h => ?_) (fun cdv A outer s H vs Q E hr h => ?_)
  · obtain ⟨p, dx, b, d, vc, vl, vw, cs, ls, ws, rfl, _⟩ := h
    rfl
  · obtain ⟨p, dx, b, d, vc, vl, vw, cs, ls, ws, rfl, hp, hd, good, hc, okc, hl, fewl, okl, hw, okw, hsz, q⟩ := h
    refine ⟨_, (Evl.pss_cut (ps_set (i := 5) sc_prog.nd rfl (.inl rfl) (pe_ifExp (pt_cmpR op_isN (pv 2) pe_non (nomark _)) pe_dnewK (pv 2)))
  (Evl.pss_cut (ps_set (i := 6) sc_prog.nd rfl (.inl rfl) (pe_ifExp (pt_cmpR op_isN (pv 3) pe_non (nomark _)) (pe_lst pa_nil) (pv 3)))
  (Evl.pss_cut (ps_set (i := 7) sc_prog.nd rfl (.inl rfl) (pe_ifExp (pt_cmpR op_isN (pv 4) pe_non (nomark _)) pe_dnewK (pv 4)))
  (pss_cons (ps_if (PW.pt (pw_or (pt_not (pt_val (pcall T.D_sizes (ok_sizes T) (hr.mono (by omega)) (by rfl) (pa_cons (pv 5) (pa_cons (pe_un un_neg pe_int) (pa_cons pe_int pa_nil)))))) (pw_or (pt_not (pt_val (pcall T.D_locks (ok_locks T) (hr.mono (by omega)) (by rfl) (pa_cons (pv 6) pa_nil)))) (pw_or1 (pt_not (pt_val (pcall T.D_sizes (ok_sizes T) (hr.mono (by omega)) (by rfl) (pa_cons (pv 7) (pa_cons pe_int (pa_cons pe_int pa_nil))))))))))
  (pss_one (ps_raise rfl (takes_of rfl rfl rfl rfl) (pmk_oex T.x_NoProgram T.i_NoProgram T.ti_NoProgram (ok_np T) (hr.mono (by omega)) T.b_np .nil pass0 (by rfl) T.gC_NoProgram (pa_cons (pe_tup pa_nil) pa_nil))))
  pss_nil)
  (pss_cons (ps_set (i := 8) sc_prog.nd rfl (.inl rfl) (pe_callN (ok_first T N hN) (hr.mono (by omega)) (by rfl) T.g_first T.D_first.kp (kb_first T) pass0 (pa_cons (pv 1) pa_nil) (pk_cons (pe_callTy call_tuple_of (by rfl) T.tuple (by decide +kernel) (pa_cons (pe_callTy (call_listD rfl) (by rfl) T.list (by decide +kernel) (pa_cons (pv 5) pa_nil)) pa_nil)) (pk_cons (pe_callTy call_tuple_of (by rfl) T.tuple (by decide +kernel) (pa_cons (pv 6) pa_nil)) (pk_cons (pe_callTy call_tuple_of (by rfl) T.tuple (by decide +kernel) (pa_cons (pe_callTy (call_listD rfl) (by rfl) T.list (by decide +kernel) (pa_cons (pv 7) pa_nil)) pa_nil)) pk_nil)))))
  (pss_cons (ps_if (pt_cmpR op_notN (pv 8) pe_non (nomark _))
  (pss_one (ps_raise rfl (takes_of rfl rfl rfl rfl) (pmk_oex T.x_NoProgram T.i_NoProgram T.ti_NoProgram (ok_np T) (hr.mono (by omega)) T.b_np .nil pass0 (by rfl) T.gC_NoProgram (pa_cons (pv 8) pa_nil))))
  pss_nil)
  (pss_cons (ps_fld (pv 0) (pcall T.D_places (ok_places T N hN N) (hr.mono (by omega)) (by rfl) (pa_cons (pv 1) (pa_cons (pe_tup pa_nil) pa_nil))) rfl)
  (pss_cons (ps_if (pt_cmpR op_gt (pe_callB call_len_seq (by rfl) T.len PySem.boot_len (pa_cons (pe_fld (pv 0) rfl) pa_nil)) (pe_gi (by rfl) T.c_MOST_ROWS) (nomark _))
  (pss_one (ps_raise rfl (takes_of rfl rfl rfl rfl) (pmk_oex T.x_NoProgram T.i_NoProgram T.ti_NoProgram (ok_np T) (hr.mono (by omega)) T.b_np .nil pass0 (by rfl) T.gC_NoProgram (pa_cons (pe_tup pa_nil) pa_nil))))
  pss_nil)
  (pss_cons (ps_fld (pv 0) (pv 1) rfl)
  (pss_cons (ps_fld (pv 0) (pe_callTy call_dictC (by rfl) T.dict (by decide +kernel) (pa_cons (pv 5) pa_nil)) rfl)
  (pss_cons (ps_fld (pv 0) (pe_callTy call_list_of (by rfl) T.list (by decide +kernel) (pa_cons (pv 6) pa_nil)) rfl)
  (pss_one (ps_fld (pv 0) (pe_callTy call_dictC (by rfl) T.dict (by decide +kernel) (pa_cons (pv 7) pa_nil)) rfl))))))))))))), ?_⟩
    have failE : ∀ pl, progD N cs ls ws d = some pl → ∀ (H1 : Hp), V1 p H H1 → H1 p ≠ none → ∀ t dd : Addr, SqT K H1 t (pl.map V.int) → H1 dd = none → E (.ref T.C_NoProgram) (some dd) (upd H1 dd (.xd [("place", .ref t)])) := fun pl e H1 v1 hp1 t dd ht nd => by
      have nH : H dd = none := by
        cases h : H dd with
        | none => rfl
        | some o =>
          by_cases e2 : dd = p
          · rw [e2] at nd; exact absurd nd hp1
          · rw [v1 _ _ h e2] at nd; cases nd
      have z := q _ (v1.trans (same_upd (o := .xd [("place", .ref t)]) nd))
      rw [e] at z
      exact z t dd ((same_upd nd).sqt ht) upd_same nH
    -- first
    refine ⟨fun σ H1 => ∃ a1, σ = [some (.ref p), some b, some vc, some vl, some vw, some (.ref a1), none, none, none] ∧ Same H H1 ∧ H1 a1 = some (.dK (dI cs)), ?_, ?_⟩
    · refine ⟨_, rfl, rfl, _, rfl, ?_⟩
      rcases hc with ⟨rfl, rfl⟩ | ⟨a, rfl, ha⟩
      · exact ite1 (decide_eq_true rfl) fun d1 nd => ⟨d1, rfl, same_upd nd, upd_same⟩
      · exact ite0 (decide_eq_false (by intro z; cases z)) ⟨_, rfl, a, rfl, Same.refl H, ha⟩
    rintro _ H1 ⟨a1, rfl, s1, h1⟩
    -- keys
    refine ⟨fun σ H2 => ∃ a2, σ = [some (.ref p), some b, some vc, some vl, some vw, some (.ref a1), some (.ref a2), none, none] ∧ Same H1 H2 ∧ H2 a2 = some (.lst (ls.map V.str)), ?_, ?_⟩
    · refine ⟨_, rfl, rfl, _, rfl, ?_⟩
      rcases hl with ⟨rfl, rfl⟩ | ⟨a, rfl, ha⟩
      · exact ite1 (decide_eq_true rfl) ⟨Nat.zero_le _, fun d1 nd => ⟨d1, rfl, same_upd nd, upd_same⟩⟩
      · exact ite0 (decide_eq_false (by intro z; cases z)) ⟨_, rfl, a, rfl, Same.refl H1, s1 _ _ ha⟩
    rintro _ H2 ⟨a2, rfl, s2, h2⟩
    -- widths
    refine ⟨fun σ H3 => ∃ a3, σ = [some (.ref p), some b, some vc, some vl, some vw, some (.ref a1), some (.ref a2), some (.ref a3), none] ∧ Same H2 H3 ∧ H3 a3 = some (.dK (dI ws)), ?_, ?_⟩
    · refine ⟨_, rfl, rfl, _, rfl, ?_⟩
      rcases hw with ⟨rfl, rfl⟩ | ⟨a, rfl, ha⟩
      · exact ite1 (decide_eq_true rfl) fun d1 nd => ⟨d1, rfl, same_upd nd, upd_same⟩
      · exact ite0 (decide_eq_false (by intro z; cases z)) ⟨_, rfl, a, rfl, Same.refl H2, s2 _ _ (s1 _ _ ha)⟩
    rintro _ H3 ⟨a3, rfl, s3, h3⟩
    have s03 := (s1.trans s2).trans s3
    have h1 := s3 _ _ (s2 _ _ h1)
    have h2 := s3 _ _ h2
    clear s1 s2 s3 hc hl hw
    -- the tests
    have bad : ∀ H4, Same H H4 → (sizesD (-99) 99 cs && (locksD ls && sizesD 1 4 ws)) = false → ∀ t dd : Addr, H4 t = none → (upd H4 t (.tup [])) dd = none → E (.ref T.C_NoProgram) (some dd) (upd (upd H4 t (.tup [])) dd (.xd [("place", .ref t)])) := fun H4 s4 e t dd nt nd => by
      refine failE [] (by unfold progD; rw [e]; rfl) _ (V1.of (s4.trans (same_upd nt))) ?_ t dd (stt upd_same) nd
      rw [(s4.trans (same_upd nt)) _ _ hp]
      exact Option.some_ne_none _
    refine ⟨_, rfl, _, rfl, a1, cs, -99, 99, rfl, h1, okc.nd, okc.few, okc.ok, fun H4 s4 => ⟨_, rfl, ?_⟩⟩
    have s04 := s03.trans s4
    cases e1 : sizesD (-99) 99 cs with
    | false => exact iteT (iteT ⟨Nat.zero_le _, fun t nt => mkO_of fun dd nd => bad H4 s04 (by rw [e1]; rfl) t dd nt nd⟩)
    | true =>
    refine iteF ⟨_, rfl, a2, ls, rfl, s4 _ _ h2, fewl, okl, fun H5 s5 => ⟨_, rfl, ?_⟩⟩
    have s05 := s04.trans s5
    cases e2 : locksD ls with
    | false => exact iteT (iteT ⟨Nat.zero_le _, fun t nt => mkO_of fun dd nd => bad H5 s05 (by rw [e1, e2]; rfl) t dd nt nd⟩)
    | true =>
    refine iteF ⟨_, rfl, a3, ws, 1, 4, rfl, s5 _ _ (s4 _ _ h3), okw.nd, okw.few, okw.ok, fun H6 s6 => ⟨_, rfl, ?_⟩⟩
    have s06 := s05.trans s6
    cases e3 : sizesD 1 4 ws with
    | false => exact iteT ⟨Nat.zero_le _, fun t nt => mkO_of fun dd nd => bad H6 s06 (by rw [e1, e2, e3]; rfl) t dd nt nd⟩
    | true =>
    refine iteF ?_
    have h1 := s6 _ _ (s5 _ _ (s4 _ _ h1))
    have h2 := s6 _ _ (s5 _ _ (s4 _ _ h2))
    have h3 := s6 _ _ (s5 _ _ (s4 _ _ h3))
    clear s4 s5 s6 s03 s04 s05 bad
    have eP : progD N cs ls ws d = match firstD (cs.map (·.1)) ls (ws.map (·.1)) N d with
      | some pl => some pl
      | none => if (placesD N (rowsD d) []).length ≤ 60 then none else some [] := by
      unfold progD
      rw [e1, e2, e3]
      rfl
    have kk : ∀ kvs : List (Str × Int), (dI kvs).map (fun kv => kV kv.1) = (kvs.map (·.1)).map V.str := fun kvs => by
      unfold dI
      rw [List.map_map, List.map_map]
      rfl
    show tSeq _ _ _ _ _
    -- wrong
    refine ⟨_, rfl, _, rfl, a1, _, rfl, .inl h1, fun l1 n1 => ⟨l1, _, rfl, .inl ⟨sl upd_same, fun t1 m1 => ?_⟩⟩⟩
    rw [kk]
    rw [kk] at m1
    have sA := (same_upd (o := .lst ((cs.map (·.1)).map V.str)) n1).trans (same_upd (o := .tup ((cs.map (·.1)).map V.str)) m1)
    have hA : (upd (upd H6 l1 (.lst ((cs.map (·.1)).map V.str))) t1 (.tup ((cs.map (·.1)).map V.str))) t1 = some (.tup ((cs.map (·.1)).map V.str)) := upd_same
    generalize upd (upd H6 l1 (.lst ((cs.map (·.1)).map V.str))) t1 (.tup ((cs.map (·.1)).map V.str)) = HA at sA hA ⊢
    refine ⟨_, rfl, a2, _, rfl, .inl ⟨sl (sA _ _ h2), fun t2 m2 => ?_⟩⟩
    have sB := same_upd (o := .tup (ls.map V.str)) m2
    have hB : (upd HA t2 (.tup (ls.map V.str))) t2 = some (.tup (ls.map V.str)) := upd_same
    generalize upd HA t2 (.tup (ls.map V.str)) = HB at sB hB ⊢
    refine ⟨_, rfl, a3, _, rfl, .inl (sB _ _ (sA _ _ h3)), fun l3 n3 => ⟨l3, _, rfl, .inl ⟨sl upd_same, fun t3 m3 => ?_⟩⟩⟩
    rw [kk]
    rw [kk] at m3
    have sC := (same_upd (o := .lst ((ws.map (·.1)).map V.str)) n3).trans (same_upd (o := .tup ((ws.map (·.1)).map V.str)) m3)
    have hC : (upd (upd HB l3 (.lst ((ws.map (·.1)).map V.str))) t3 (.tup ((ws.map (·.1)).map V.str))) t3 = some (.tup ((ws.map (·.1)).map V.str)) := upd_same
    generalize upd (upd HB l3 (.lst ((ws.map (·.1)).map V.str))) t3 (.tup ((ws.map (·.1)).map V.str)) = HC at sC hC ⊢
    have s0C := s06.trans ((sA.trans sB).trans sC)
    have s6C := (sA.trans sB).trans sC
    refine ⟨rfl, rfl, b, d, t1, t2, t3, _, _, _, rfl, s0C.dp hd, good, stt (sC _ _ (sB _ _ hA)), stt (sC _ _ hB), stt hC, fun v H7 s7 hres => ?_⟩
    have s07 := s0C.trans s7
    have h1 := s7 _ _ (s6C _ _ h1)
    have h2 := s7 _ _ (s6C _ _ h2)
    have h3 := s7 _ _ (s6C _ _ h3)
    have hp7 := s07 _ _ hp
    clear s7 s6C sA sB sC
    refine ⟨_, rfl, rfl, _, rfl, ?_⟩
    cases e4 : firstD (cs.map (·.1)) ls (ws.map (·.1)) N d with
    | some pl =>
      rw [e4] at hres eP
      obtain ⟨t, rfl, ht⟩ := hres
      refine ite1 (by rw [decide_eq_false (by intro z; cases z)]; rfl) ⟨_, rfl, mkO_of fun dd nd => failE pl eP _ (V1.of s07) ?_ t dd ht nd⟩
      rw [hp7]
      exact Option.some_ne_none _
    | none =>
    rw [e4] at hres eP
    have hres : v = .non := hres
    subst hres
    dsimp only at eP
    refine ite0 (by rw [decide_eq_true rfl]; rfl) ?_
    obtain ⟨rows, rfl⟩ : ∃ rows, d = .tuple rows := by cases d <;> first | exact ⟨_, rfl⟩ | cases e4
    have e4 : wrongD (cs.map (·.1)) ls (ws.map (·.1)) N rows [] [] 0 = none := e4
    obtain ⟨bb, xs, rfl, hx, hall⟩ := dp_tup hd
    have hsz : (placesD N rows []).length ≤ sizeLine := hsz
    have eP : progD N cs ls ws (.tuple rows) = if (placesD N rows []).length ≤ 60 then none else some [] := eP
    show tSeq _ _ _ _ _
    -- spots
    refine ⟨_, rfl, Nat.zero_le _, fun t nt => ?_⟩
    have sD := same_upd (o := .tup []) nt
    have hD : (upd H7 t (.tup [])) t = some (.tup []) := upd_same
    generalize upd H7 t (.tup []) = H8 at sD hD ⊢
    have s08 := s07.trans sD
    refine ⟨bb, t, rows, [], _, _, _, [], 0, rfl, s08.dp hd, good, Nat.le_refl _, stt hD, Nat.zero_le _, e4, hsz, fun l H9 vs s9 hl9 nl9 hPL => ?_⟩
    have s09 := s08.trans s9
    have s79 := sD.trans s9
    have h1 := s79 _ _ h1
    have h2 := s79 _ _ h2
    have h3 := s79 _ _ h3
    have hp9 := s79 _ _ hp7
    have v09 := V1.of (p := p) s09
    have nl0 := s08.free nl9
    clear sD s9 s79 s07 s08 hp7
    refine ⟨_, rfl, p, T.C_Program, dx, [], rfl, hp9, T.cl_Program, T.na_Program_spots, by decide, ?_⟩
    have ne : ∀ {a : Addr} {o : HO}, H9 a = some o → (∀ C dx fs, o ≠ .ins C dx fs) → a ≠ p := fun h z e => by
      subst e
      rw [hp9] at h
      exact z _ _ _ (Option.some.inj h).symm
    have l_p : l ≠ p := ne hl9 (by intro _ _ _ z; cases z)
    have hl10 : (upd H9 p (.ins T.C_Program dx (putF "spots" (.ref l) []))) l = some (.lst vs) := by rw [upd_ne l_p]; exact hl9
    have hp10 : (upd H9 p (.ins T.C_Program dx (putF "spots" (.ref l) []))) p = some (.ins T.C_Program dx [("spots", .ref l)]) := upd_same
    have v10 : V1 p H (upd H9 p (.ins T.C_Program dx (putF "spots" (.ref l) []))) := v09.set
    have w10 : V1 p H9 (upd H9 p (.ins T.C_Program dx (putF "spots" (.ref l) []))) := (V1.of (Same.refl _)).set
    generalize upd H9 p (.ins T.C_Program dx (putF "spots" (.ref l) [])) = H10 at hl10 hp10 v10 w10 ⊢
    have lenv : vs.length = (placesD N rows []).length := paired_len hPL
    refine ⟨_, rfl, p, T.C_Program, dx, _, _, rfl, hp10, T.cl_Program, T.na_Program_spots, rfl, l, _, rfl, .inl (sl hl10), _, _, rfl, rfl, _, rfl, ?_⟩
    refine ite2 (fun hm => ?_) (fun hm => ?_)
    · have hm := of_decide_eq_true hm
      have e60 : ¬ (placesD N rows []).length ≤ 60 := by omega
      refine ⟨Nat.zero_le _, fun t nt => mkO_of fun dd nd => failE [] (by rw [eP, if_neg e60]) _ (v10.trans (same_upd nt)) ?_ t dd (stt upd_same) nd⟩
      rw [same_upd nt _ _ hp10]
      exact Option.some_ne_none _
    have e60 : (placesD N rows []).length ≤ 60 := by
      have : ¬ (60 : Int) < (vs.length : Nat) := fun z => hm (decide_eq_true z)
      omega
    rw [if_pos e60] at eP
    -- the fields
    refine ⟨_, rfl, _, rfl, p, T.C_Program, dx, _, rfl, hp10, T.cl_Program, T.na_Program_tree, by show 1 < 1000; decide, ?_⟩
    have h1 := w10 _ _ h1 (ne h1 (by intro _ _ _ z; cases z))
    have h2 := w10 _ _ h2 (ne h2 (by intro _ _ _ z; cases z))
    have h3 := w10 _ _ h3 (ne h3 (by intro _ _ _ z; cases z))
    have put : ∀ (Ha : Hp) (f : Str) (v : V) (fs fs' : List (Str × V)), putF f v fs = fs' → Ha p = some (.ins T.C_Program dx fs) → V1 p H Ha → ∀ Hb, Hb = upd Ha p (.ins T.C_Program dx (putF f v fs)) → Hb p = some (.ins T.C_Program dx fs') ∧ V1 p H Hb ∧ (∀ a o, Ha a = some o → (∀ C dx fs, o ≠ .ins C dx fs) → Hb a = some o) := fun Ha f v fs fs' e h1 h2 Hb e2 => by
      subst e2
      refine ⟨by rw [upd_same, e], h2.set, fun a o h3 h4 => ?_⟩
      rw [upd_ne (fun z => by subst z; rw [h1] at h3; exact h4 _ _ _ (Option.some.inj h3).symm)]
      exact h3
    obtain ⟨hp11, v11, k11⟩ := put H10 "tree" (.ref bb) _ _ rfl hp10 v10 _ rfl
    generalize upd H10 p (.ins T.C_Program dx (putF "tree" (.ref bb) [("spots", .ref l)])) = H11 at hp11 v11 k11 ⊢
    have h1 := k11 _ _ h1 (by intro _ _ _ z; cases z)
    have h2 := k11 _ _ h2 (by intro _ _ _ z; cases z)
    have h3 := k11 _ _ h3 (by intro _ _ _ z; cases z)
    have hl11 := k11 _ _ hl10 (by intro _ _ _ z; cases z)
    refine ⟨_, rfl, a1, _, rfl, .inl h1, fun f nf => ⟨_, rfl, p, T.C_Program, dx, _, rfl, same_upd nf _ _ hp11, T.cl_Program, T.na_Program_first, by show 2 < 1000; decide, ?_⟩⟩
    obtain ⟨hp12, v12, k12⟩ := put (upd H11 f (.dK (dI cs))) "first" (.ref f) _ _ rfl (same_upd nf _ _ hp11) (v11.trans (same_upd nf)) _ rfl
    have hf12 := k12 f _ upd_same (by intro _ _ _ z; cases z)
    have h2 := k12 _ _ (same_upd nf _ _ h2) (by intro _ _ _ z; cases z)
    have h3 := k12 _ _ (same_upd nf _ _ h3) (by intro _ _ _ z; cases z)
    have hl12 := k12 _ _ (same_upd nf _ _ hl11) (by intro _ _ _ z; cases z)
    generalize upd (upd H11 f (.dK (dI cs))) p (.ins T.C_Program dx (putF "first" (.ref f) (putF "tree" (.ref bb) [("spots", .ref l)]))) = H12 at hp12 v12 k12 hf12 h2 h3 hl12 ⊢
    refine ⟨_, rfl, a2, _, rfl, .inl (sl h2), fun g ng => ⟨_, rfl, p, T.C_Program, dx, _, rfl, same_upd ng _ _ hp12, T.cl_Program, T.na_Program_bolts, by show 3 < 1000; decide, ?_⟩⟩
    obtain ⟨hp13, v13, k13⟩ := put (upd H12 g (.lst (ls.map V.str))) "bolts" (.ref g) _ _ rfl (same_upd ng _ _ hp12) (v12.trans (same_upd ng)) _ rfl
    have gl : l ≠ g := ne_of_none hl12 ng
    have hg13 := k13 g _ upd_same (by intro _ _ _ z; cases z)
    have hf13 := k13 _ _ (same_upd ng _ _ hf12) (by intro _ _ _ z; cases z)
    have h3 := k13 _ _ (same_upd ng _ _ h3) (by intro _ _ _ z; cases z)
    have hl13 := k13 _ _ (same_upd ng _ _ hl12) (by intro _ _ _ z; cases z)
    show tSeq _ _ _ _ _
    generalize upd (upd H12 g (.lst (ls.map V.str))) p (.ins T.C_Program dx (putF "bolts" (.ref g) (putF "first" (.ref f) (putF "tree" (.ref bb) [("spots", .ref l)])))) = H13 at hp13 v13 k13 hg13 hf13 h3 hl13 ⊢
    refine ⟨_, rfl, a3, _, rfl, .inl h3, fun wd nw => ⟨_, rfl, p, T.C_Program, dx, _, rfl, same_upd nw _ _ hp13, T.cl_Program, T.na_Program_widths, by show 4 < 1000; decide, ?_⟩⟩
    obtain ⟨hp14, v14, k14⟩ := put (upd H13 wd (.dK (dI ws))) "widths" (.ref wd) _ _ rfl (same_upd nw _ _ hp13) (v13.trans (same_upd nw)) _ rfl
    have fw : f ≠ wd := ne_of_none hf13 nw
    have kA : ∀ a o, H9 a = some o → (∀ C dx fs, o ≠ .ins C dx fs) → (upd (upd H13 wd (.dK (dI ws))) p (.ins T.C_Program dx (putF "widths" (.ref wd) (putF "bolts" (.ref g) (putF "first" (.ref f) (putF "tree" (.ref bb) [("spots", .ref l)])))))) a = some o :=
      fun a o h z => k14 _ _ (same_upd nw _ _ (k13 _ _ (same_upd ng _ _ (k12 _ _ (same_upd nf _ _ (k11 _ _ (w10 _ _ h (ne h z)) z)) z)) z)) z
    have z := q _ v14
    rw [eP] at z
    exact z ⟨dx, l, f, g, wd, vs, hp14, kA _ _ hl9 (by intro _ _ _ z; cases z), paired_imp (fun _ _ ⟨t, e, h⟩ => ⟨t, e, sqt_kept kA h⟩) hPL, k14 _ _ (same_upd nw _ _ hf13) (by intro _ _ _ z; cases z), k14 _ _ (same_upd nw _ _ hg13) (by intro _ _ _ z; cases z), k14 _ _ upd_same (by intro _ _ _ z; cases z), gl, fw, nl0, v11.free nf hp11, v12.free ng hp12, v13.free nw hp13⟩
end
end TP
namespace TP
open PySem PySem.Spec PyProof.Rows L2 HX HB HG HU HH HD HS HV HQ HK HN TL
/-! ### what is drawn from -/
section
variable {d g c : Addr} {H H' H'' : Hp} {K : PySem.W.Frag}
end
theorem seq0 {α : Type} {x : α} (xs : List α) : seqIndex? 0 (x :: xs).length = some 0 := by
  unfold seqIndex?
  simp
theorem dp_ints {K : PySem.W.Frag} {H : Hp} : ∀ ns : List Int, DpAll K H (ns.map V.int) (ns.map PyData.int)
  | [] => .nil
  | n :: ns => .cons (.int n) (dp_ints ns)
theorem ints_lay : ∀ ns : List Int, PyData.canLayAll0 (ns.map PyData.int) = true
  | [] => rfl
  | n :: ns => by simp only [List.map_cons, PyData.canLayAll0, PyData.canLay0, ints_lay ns, Bool.and_self]
theorem ints_depth : ∀ ns : List Int, PyData.depthAll (ns.map PyData.int) = 0
  | [] => rfl
  | n :: ns => by simp only [List.map_cons, PyData.depthAll, PyData.depth, ints_depth ns, Nat.max_self]
theorem ints_shaped (ns : List Int) : SeqAt.shaped (.list (ns.map PyData.int)) = true := by
  show (PyData.canLay0 (.list (ns.map PyData.int)) && decide (PyData.depth (.list (ns.map PyData.int)) ≤ 64)) = true
  simp only [PyData.canLay0, PyData.depth, ints_lay ns, ints_depth ns]
  rfl
section
variable {P : Program} {w : World} {K : PySem.W.Frag} {mg : Str → Option Value} {base : Heap}
end
/-! ### names -/
theorem join_name {cs : List Nat} (h1 : 1 ≤ cs.length) (h6 : cs.length ≤ 6) (hl : ∀ c ∈ cs, isLow c = true) : isNameL (Txt.join Str.empty (cs.map sg)) = true := by
  have e := join_sg cs
  have el : (Txt.join Str.empty (cs.map sg)).length = cs.length := by
    have := congrArg List.length e
    rw [Array.length_toList] at this
    exact this
  unfold isNameL
  rw [el, e, decide_eq_true h1, decide_eq_true h6, List.all_eq_true.mpr hl]
  rfl
theorem sg_sum : ∀ cs : List Nat, ((cs.map sg).map (·.length)).sum = cs.length
  | [] => rfl
  | c :: cs => by
    rw [List.map_cons, List.map_cons, List.sum_cons, sg_sum cs, List.length_cons]
    show 1 + cs.length = cs.length + 1
    omega
theorem letters_at {j : Nat} (h : j < 26) : atI ("abcdefghijklmnopqrstuvwxyz" : Str).cps.toList (j : Int) = some (j + 97) := by
  refine atI_nat ?_
  have e : ("abcdefghijklmnopqrstuvwxyz" : Str).cps.toList = (List.range 26).map (· + 97) := by decide +kernel
  rw [e, List.getElem?_map, List.getElem?_range h]
  rfl
section
variable {P : Program} {w : World} {K : PySem.W.Frag} {mg : Str → Option Value} {base : Heap}
def own13 : List Str := ["put", "read", "write", "tell", "send", "take", "hold", "rest", "nest", "within", "start", "off", "shield"]
def own13b : List Str := ["fail", "catch", "try", "if", "often", "cell", "lock", "sum", "minus", "less", "clock", "a", "ab"]
def own26 : List Str := own13 ++ own13b
theorem own_names : ∀ z ∈ own26, isNameL z = true := by decide +kernel
end
section
variable {P : Program} {w : World} {K : PySem.W.Frag} {mg : Str → Option Value} {base : Heap}
theorem kb_prog (T : Tp K w mg) : KBn K T.fd_prog ["self", "body", "cells", "locks", "channels"] 2 ["cells", "locks", "channels"] (fun us ws => us ++ ws) (fun vs zs => vs ++ zs) := by
  obtain ⟨mv, h⟩ := T.D_prog.kbinds0 (ps := ["self", "body", "cells", "locks", "channels"]) 2 ["cells", "locks", "channels"] [] (fun us _ ws => us ++ ws) (List.cons_ne_nil _ _) (fun q h => by cases h) (fun a _ c => a.append c)
    (fun D doc pm an cdv ct us mv ws h1 h2 h3 => match us, ws, mv, h1, h2, h3 with | [_, _], [_, _, _], [], _, _, _ => rfl)
  exact h
theorem ArgD.same {H H' : Hp} {v : V} {kvs : List (Str × Int)} (h : ArgD H v kvs) (s : Same H H') : ArgD H' v kvs := by
  rcases h with h | ⟨a, e, h⟩
  · exact .inl h
  · exact .inr ⟨a, e, s _ _ h⟩
theorem ArgL.same {H H' : Hp} {v : V} {zs : List Str} (h : ArgL H v zs) (s : Same H H') : ArgL H' v zs := by
  rcases h with h | ⟨a, e, h⟩
  · exact .inl h
  · exact .inr ⟨a, e, s _ _ h⟩
end
/-! ### texts of small letters -/
structure Low (z : Str) : Prop where
  low : ∀ c ∈ z.cps.toList, isLow c = true
  few : z.length ≤ 1000
theorem Low.of {z : Str} (h : isNameL z = true) : Low z := by
  unfold isNameL at h
  simp only [Bool.and_eq_true, decide_eq_true_eq, List.all_eq_true] at h
  exact ⟨h.2, by omega⟩
theorem Low.name {z : Str} (h : Low z) (h1 : 1 ≤ z.length) (h6 : z.length ≤ 6) : isNameL z = true := by
  unfold isNameL
  rw [decide_eq_true h1, decide_eq_true h6, List.all_eq_true.mpr h.low]
  rfl
theorem Low.ok {z : Str} (h : Low z) : okD (.str z) = true := by
  have := h.few
  simp only [okD, decide_eq_true_eq]
  omega
theorem isLow_lt {c : Nat} (h : isLow c = true) : 97 ≤ c ∧ c ≤ 122 := by
  unfold isLow at h
  simpa [Bool.and_eq_true] using h
theorem Low.lay {z : Str} (h : Low z) : PyData.canLay0 (.str z) = true := by
  show z.cps.all (fun c => decide (c < 0x110000)) = true
  rw [← Array.all_toList, List.all_eq_true]
  intro c hc
  have := isLow_lt (h.low c hc)
  exact decide_eq_true (by omega)
theorem low_app {x y : Str} (hx : Low x) (hy : Low y) (h : x.length + y.length ≤ 1000) : Low (x ++ y) := by
  refine ⟨fun c hc => ?_, by rw [strLen_append]; exact h⟩
  rw [show (x ++ y).cps.toList = x.cps.toList ++ y.cps.toList from tl_append x y] at hc
  rcases List.mem_append.mp hc with hc | hc
  · exact hx.low c hc
  · exact hy.low c hc
theorem low_sg {k : Nat} (h : k < 26) : Low (sg (k + 97)) := by
  refine ⟨fun c hc => ?_, by show 1 ≤ 1000; decide⟩
  have : c = k + 97 := by simpa [sg] using hc
  subst this
  unfold isLow
  rw [decide_eq_true (by omega), decide_eq_true (by omega)]
  rfl
theorem low_cut {z : Str} (h : Low z) (lo hi : Option Int) : Low (cutS z lo hi) := by
  refine ⟨fun c hc => h.low c ?_, Nat.le_trans (cutS_length z lo hi) h.few⟩
  unfold cutS at hc
  exact List.mem_of_mem_drop (List.mem_of_mem_take (by simpa using hc))
theorem cut_last {z : Str} (h : z.length ≤ 6) : cutS z (some (-6)) none = z := by
  unfold cutS
  have e : HT.sIx z.length 0 (some (-6)) = 0 := by
    show (if (-6 : Int) < 0 then ((-6 : Int) + (z.length : Int)).toNat else min (-6 : Int).toNat z.length) = 0
    rw [if_pos (by decide)]
    omega
  rw [e, HT.sIx_none, List.drop_zero, Nat.sub_zero, show z.length = z.cps.toList.length by simp [Str.length], List.take_length]
/-! ### data that is fit -/
theorem Good.str {z : Str} (h : Low z) (n : Nat) : Good (.str z) n := ⟨h.ok, h.lay, Nat.zero_le _⟩
theorem Good.int (i : Int) (n : Nat) : Good (.int i) n := ⟨rfl, rfl, Nat.zero_le _⟩
theorem okAll_of : ∀ {xs : List PyData}, (∀ x ∈ xs, okD x = true) → okAll xs = true
  | [], _ => rfl
  | x :: xs, h => by
    simp only [okAll, Bool.and_eq_true]
    exact ⟨h x (List.mem_cons_self ..), okAll_of fun y hy => h y (List.mem_cons_of_mem _ hy)⟩
theorem layAll_of : ∀ {xs : List PyData}, (∀ x ∈ xs, PyData.canLay0 x = true) → PyData.canLayAll0 xs = true
  | [], _ => rfl
  | x :: xs, h => by
    simp only [PyData.canLayAll0, Bool.and_eq_true]
    exact ⟨h x (List.mem_cons_self ..), layAll_of fun y hy => h y (List.mem_cons_of_mem _ hy)⟩
theorem depAll_of {n : Nat} : ∀ {xs : List PyData}, (∀ x ∈ xs, PyData.depth x ≤ n) → PyData.depthAll xs ≤ n
  | [], _ => Nat.zero_le _
  | x :: xs, h => by
    simp only [PyData.depthAll]
    have h1 := h x (List.mem_cons_self ..)
    have h2 := depAll_of fun y hy => h y (List.mem_cons_of_mem _ hy)
    omega
theorem Good.tup {xs : List PyData} {n : Nat} (h : ∀ x ∈ xs, Good x n) (l : xs.length ≤ 10000) : Good (.tuple xs) (n + 1) := by
  refine ⟨?_, layAll_of fun x hx => (h x hx).lay, ?_⟩
  · simp only [okD, Bool.and_eq_true, decide_eq_true_eq]
    exact ⟨l, okAll_of fun x hx => (h x hx).ok⟩
  · have := depAll_of fun x hx => (h x hx).dep
    show PyData.depthAll xs + 1 ≤ n + 1
    omega
/-! ### displays: new tuples, new lists -/
section
variable {K : PySem.W.Frag} {H : Hp}
theorem new_tup {xs : List V} {ds : List PyData} {p : Addr} (np : H p = none) (hx : DpAll K H xs ds) : Same H (upd H p (.tup xs)) ∧ Dp K (upd H p (.tup xs)) (.ref p) (.tuple ds) :=
  ⟨same_upd np, .tup (stt upd_same) ((same_upd np).dpAll hx)⟩
theorem new_lst {xs : List V} {p : Addr} (np : H p = none) : Same H (upd H p (.lst xs)) ∧ (upd H p (.lst xs)) p = some (.lst xs) := ⟨same_upd np, upd_same⟩
end
theorem str_lit {z : Str} (h : (decide (z.length ≤ 20) && z.cps.toList.all isLow) = true) : Low z := by
  simp only [Bool.and_eq_true, decide_eq_true_eq, List.all_eq_true] at h
  exact ⟨h.2, by omega⟩
theorem look_none {ps : List (Str × Str)} {z : Str} (h : z ∉ ps.map (·.1)) : lookW ps z = none := by
  cases e : lookW ps z with
  | none => rfl
  | some w => exact absurd (lookW_mem e) h
theorem part_name {cs ls hs : List Str} {ps : List (Str × Str)} {z : Str} (h : isNameL z = true) : isPartD cs ls hs ps "name" (.str z) = true := by
  show (isNameL z && namePart "name" z cs ls hs ps) = true
  rw [h]
  rfl
theorem part_sc {cs ls hs : List Str} {ps : List (Str × Str)} {z : Str} (h : isNameL z = true) (hz : z ∉ ps.map (·.1)) : isPartD cs ls hs ps "scope" (.str z) = true := by
  show (isNameL z && (decide (("scope" : Str) = "name") || decide ((lookW ps z).isSome = decide (("scope" : Str) = "entered")))) = true
  rw [h, look_none hz]
  rfl
theorem part_tup {cs ls hs : List Str} {ps : List (Str × Str)} {xs : List PyData} : isPartD cs ls hs ps "body" (.tuple xs) = true := rfl
theorem row2 {cs ls hs : List Str} {ps : List (Str × Str)} {z k1 : Str} {a : PyData} (h : kindsOf z = some [k1]) (h1 : isPartD cs ls hs ps k1 a = true) : isRowD cs ls hs ps (.tuple [.str z, a]) = true := by
  simp only [isRowD, h, List.length_cons, List.length_nil, decide_true, List.zip_cons_cons, List.zip_nil_left, List.all_cons, List.all_nil, h1, Bool.and_self]
theorem row3 {cs ls hs : List Str} {ps : List (Str × Str)} {z k1 k2 : Str} {a b : PyData} (h : kindsOf z = some [k1, k2]) (h1 : isPartD cs ls hs ps k1 a = true) (h2 : isPartD cs ls hs ps k2 b = true) : isRowD cs ls hs ps (.tuple [.str z, a, b]) = true := by
  simp only [isRowD, h, List.length_cons, List.length_nil, decide_true, List.zip_cons_cons, List.zip_nil_left, List.all_cons, List.all_nil, h1, h2, Bool.and_self]
theorem row4 {cs ls hs : List Str} {ps : List (Str × Str)} {z k1 k2 k3 : Str} {a b c : PyData} (h : kindsOf z = some [k1, k2, k3]) (h1 : isPartD cs ls hs ps k1 a = true) (h2 : isPartD cs ls hs ps k2 b = true) (h3 : isPartD cs ls hs ps k3 c = true) : isRowD cs ls hs ps (.tuple [.str z, a, b, c]) = true := by
  simp only [isRowD, h, List.length_cons, List.length_nil, decide_true, List.zip_cons_cons, List.zip_nil_left, List.all_cons, List.all_nil, h1, h2, h3, Bool.and_self]
theorem wrong_nil (cs ls hs : List Str) (n : Nat) (place : List Int) (ps : List (Str × Str)) (oft : Int) : wrongD cs ls hs n [] place ps oft = none := by
  cases n <;> rfl
/-- a row without bodies that may stand anywhere -/
structure Leaf (cs ls hs : List Str) (d : PyData) : Prop where
  row : ∀ ps, isRowD cs ls hs ps d = true
  oft : oftD d = 0
  bods : bodiesD d = []
theorem wrong_one {cs ls hs : List Str} {n : Nat} {row : PyData} {place : List Int} {ps : List (Str × Str)} {oft : Int} : wrongD cs ls hs (n + 1) [row] place ps oft = rowF cs ls hs n place ps oft 0 row := by
  have e : wrongD cs ls hs (n + 1) [row] place ps oft = firstSome (rowF cs ls hs n place ps oft) 0 [row] := by
    simp only [wrongD]
    rfl
  rw [e]
  simp only [firstSome]
  cases rowF cs ls hs n place ps oft 0 row <;> rfl
/-! ### data of tuples alone stand while draws are drawn -/
section
variable {K : PySem.W.Frag} {H H' : Hp} {d g c : Addr}
end
theorem tup_ints : ∀ ns : List Int, tupAll (ns.map .int) = true
  | [] => rfl
  | n :: ns => by simp only [List.map_cons, tupAll, tupD, tup_ints ns, Bool.and_self]
theorem dp_ints_inv {K : PySem.W.Frag} {H : Hp} : ∀ {ns : List Int} {xs : List V}, DpAll K H xs (ns.map .int) → xs = ns.map V.int
  | [], _, .nil => rfl
  | n :: ns, _, .cons (.int _) t => by rw [dp_ints_inv t]; rfl
theorem dp_place {K : PySem.W.Frag} {H : Hp} {v : V} {pl : List Int} (h : Dp K H v (.tuple (pl.map .int))) : ∃ t : Addr, v = .ref t ∧ SqT K H t (pl.map V.int) := by
  obtain ⟨a, xs, rfl, hx, hall⟩ := dp_tup h
  rw [dp_ints_inv hall] at hx
  exact ⟨a, rfl, hx⟩
/-! ### how many rows -/
def cntD : Nat → List PyData → Nat
  | 0, _ => 0
  | n + 1, rows => (rows.map fun row => 1 + ((bodiesD row).map fun b => cntD n (rowsD b)).sum).sum
theorem flat_len {α β : Type} {f : Nat → α → List β} {g : α → Nat} : ∀ {xs : List α} {i : Nat}, (∀ k x, (f k x).length = g x) → (flatF f i xs).length = (xs.map g).sum
  | [], _, _ => rfl
  | x :: xs, i, h => by
    simp only [flatF, List.length_append, List.map_cons, List.sum_cons]
    rw [h, flat_len h]
theorem places_len : ∀ (n : Nat) (rows : List PyData) (place : List Int), (placesD n rows place).length = cntD n rows
  | 0, _, _ => rfl
  | n + 1, rows, place => by
    simp only [placesD, cntD]
    refine flat_len fun k row => ?_
    rw [List.length_cons, flat_len (g := fun b => cntD n (rowsD b)) fun j b => places_len n _ _]
    omega
theorem cnt_app (n : Nat) (xs ys : List PyData) : cntD n (xs ++ ys) = cntD n xs + cntD n ys := by
  cases n with
  | zero => rfl
  | succ n => simp only [cntD, List.map_append, List.sum_append]
theorem cnt_nil (n : Nat) : cntD n [] = 0 := by cases n <;> rfl
/-! ### right rows, by their rows -/
theorem first_none {α β : Type} {f : Nat → α → Option β} : ∀ {xs : List α} {i : Nat}, (∀ k x, xs[k]? = some x → f (i + k) x = none) → firstSome f i xs = none
  | [], _, _ => rfl
  | x :: xs, i, h => by
    simp only [firstSome]
    rw [show f i x = none from h 0 x rfl]
    refine first_none fun k y e => ?_
    rw [show i + 1 + k = i + (k + 1) by omega]
    exact h (k + 1) y (by simpa using e)
theorem wrong_succ {cs ls hs : List Str} {n : Nat} {rows : List PyData} {place : List Int} {ps : List (Str × Str)} {oft : Int} : wrongD cs ls hs (n + 1) rows place ps oft = firstSome (rowF cs ls hs n place ps oft) 0 rows := by
  simp only [wrongD]
  rfl
theorem rowF_none' {cs ls hs : List Str} {n : Nat} {place : List Int} {ps : List (Str × Str)} {oft : Int} {i : Nat} {row : PyData} (h1 : place.length + 1 ≤ 19) (h2 : isRowD cs ls hs ps row = true) (h3 : oft + oftD row ≤ 3)
    (h4 : ∀ (j : Nat) b, (bodiesD row)[j]? = some b → wrongD cs ls hs n (rowsD b) (place ++ [(i : Int)] ++ [(j : Int)]) (arD row ps) (oft + oftD row) = none) : rowF cs ls hs n place ps oft i row = none := by
  unfold rowF
  rw [h2, if_neg (by simp; omega), if_neg (by omega)]
  exact first_none fun k x e => by rw [Nat.zero_add]; exact h4 k x e
theorem nodup_map {α β : Type} {f : α → β} {l : List α} (h : l.Nodup) (hf : ∀ a b, f a = f b → a = b) : (l.map f).Nodup := List.pairwise_map.mpr (List.Pairwise.imp (fun ne e => ne (hf _ _ e)) h)
/-! ### weights: no shown text is longer -/
mutual
def wtD : PyData → Nat
  | .int i => if i.natAbs ≤ 10 ^ 41 then 20 else 10 ^ 9
  | .str z => z.length + 4
  | .tuple xs => 4 + wtAll xs
  | .list xs => 4 + wtAll xs
  | .bool _ => 8
  | .none => 8
  | _ => 10 ^ 9
def wtAll : List PyData → Nat
  | [] => 0
  | x :: xs => wtD x + wtAll xs
end
theorem wt_app : ∀ (xs ys : List PyData), wtAll (xs ++ ys) = wtAll xs + wtAll ys
  | [], ys => by simp [wtAll]
  | x :: xs, ys => by simp only [List.cons_append, wtAll, wt_app xs ys]; omega
theorem wt_int {i : Int} (h : i.natAbs ≤ 10 ^ 41) : wtD (.int i) = 20 := by
  show (if i.natAbs ≤ 10 ^ 41 then 20 else 10 ^ 9) = 20
  rw [if_pos h]
theorem name_len {z : Str} (h : isNameL z = true) : 1 ≤ z.length ∧ z.length ≤ 6 := by
  unfold isNameL at h
  simp only [Bool.and_eq_true, decide_eq_true_eq] at h
  omega
theorem wt_name {z : Str} (h : isNameL z = true) : wtD (.str z) ≤ 10 := by
  have := (name_len h).2
  show z.length + 4 ≤ 10
  omega
def cw : Nat → Nat
  | 0 => 20
  | n + 1 => 14 + 2 * cw n
theorem cw_pos : ∀ n, 20 ≤ cw n
  | 0 => Nat.le_refl _
  | n + 1 => by have := cw_pos n; show 20 ≤ 14 + 2 * cw n; omega
/-! ### what rows may name -/
structure Sz (kvs : List (Str × Int)) (l u : Int) : Prop where
  names : ∀ q ∈ kvs, isNameL q.1 = true
  nd : (kvs.map (·.1)).Nodup
  few : kvs.length ≤ 4
  rng : ∀ q ∈ kvs, l ≤ q.2 ∧ q.2 ≤ u
structure Nm (cs : List (Str × Int)) (ls : List Str) (hs : List (Str × Int)) (ws : List Str) : Prop where
  cells : Sz cs (-99) 99
  lanes : Sz hs 1 4
  locks : ∀ z ∈ ls, isNameL z = true
  lnd : ls.Nodup
  lfew : ls.length ≤ 4
  words : ∀ z ∈ ws, isNameL z = true
  four : ws.length = 4
theorem Sz.okd {kvs : List (Str × Int)} {l u : Int} (h : Sz kvs l u) : OkD kvs := ⟨h.nd, Nat.le_trans h.few (by decide), fun q hq => ⟨(Low.of (h.names q hq)).ok, rfl⟩⟩
theorem Sz.sizes {kvs : List (Str × Int)} {l u : Int} (h : Sz kvs l u) : sizesD l u kvs = true := by
  unfold sizesD
  rw [decide_eq_true h.few, Bool.true_and, List.all_eq_true]
  intro q hq
  rw [h.names q hq, decide_eq_true (h.rng q hq)]
  rfl
theorem Nm.locksD {cs ls hs ws} (h : Nm cs ls hs ws) : locksD ls = true := by
  unfold TP.locksD
  rw [decide_eq_true h.lfew, List.all_eq_true.mpr h.locks, decide_eq_true h.lnd]
  rfl
section
variable {K : PySem.W.Frag} {H H' : Hp} {d g c pl C L Ch W : Addr} {cs : List (Str × Int)} {ls : List Str} {hs : List (Str × Int)} {ws : List Str} {k k' : Nat}
end
/-! ### a calc -/
theorem kindD_ok {k : Str} (h : k = "sum" ∨ k = "minus" ∨ k = "less") : isKindD (.str k) = true := decide_eq_true h
section
variable {P : Program} {w : World} {K : PySem.W.Frag} {mg : Str → Option Value} {base : Heap}
end
/-! ### unlike names -/
theorem pigeon {α : Type} [DecidableEq α] : ∀ (l m : List α), l.Nodup → (∀ x ∈ l, x ∈ m) → l.length ≤ m.length
  | [], _, _, _ => Nat.zero_le _
  | x :: l, m, hn, h => by
    have hx := h x (List.mem_cons_self ..)
    have hn' := List.nodup_cons.mp hn
    have ih := pigeon l (m.erase x) hn'.2 fun y hy => (List.mem_erase_of_ne (fun e => hn'.1 (by rw [← e]; exact hy))).mpr (h y (List.mem_cons_of_mem _ hy))
    rw [List.length_erase_of_mem hx] at ih
    have := List.length_pos_of_mem hx
    rw [List.length_cons]
    omega
def spare : List Str := ["za", "zb", "zc", "zd", "ze", "zf", "zg", "zh", "zi"]
theorem spare_names : ∀ z ∈ spare, isNameL z = true := by decide +kernel
theorem spare_nodup : spare.Nodup := by decide +kernel
section
variable {P : Program} {w : World} {K : PySem.W.Frag} {mg : Str → Option Value} {base : Heap}
end
section
variable {K : PySem.W.Frag} {H H' : Hp} {d g c pl C L Ch W : Addr} {cs : List (Str × Int)} {ls : List Str} {hs : List (Str × Int)} {ws : List Str}
end
theorem put_new (z : Str) (v : Int) (cs : List (Str × Int)) (h : z ∉ cs.map (·.1)) : putK (dI cs) (Sum.inr z) (.int v) = dI (cs ++ [(z, v)]) := by
  have hk : valV (dI cs) (Sum.inr z : Key) = none := by
    unfold valV
    have e : (dI cs).find? (fun kv => decide (kv.1 = (Sum.inr z : Key))) = none := List.find?_eq_none.mpr fun kv hkv => by
      unfold dI at hkv
      obtain ⟨q, hq, rfl⟩ := List.mem_map.mp hkv
      rw [decide_eq_true_eq]
      intro e
      exact h (List.mem_map.mpr ⟨q, hq, Sum.inr.inj e⟩)
    rw [e]
    rfl
  rw [putK_new _ hk]
  unfold dI
  rw [List.map_append]
  rfl
/-- .. so far: the first i names -/
structure Part (kvs : List (Str × Int)) (zs : List Str) (l u : Int) : Prop where
  keys : kvs.map (·.1) = zs
  rng : ∀ q ∈ kvs, l ≤ q.2 ∧ q.2 ≤ u
theorem Part.snoc {kvs : List (Str × Int)} {zs : List Str} {l u v : Int} {z : Str} (h : Part kvs zs l u) (h1 : l ≤ v) (h2 : v ≤ u) : Part (kvs ++ [(z, v)]) (zs ++ [z]) l u := by
  refine ⟨by rw [List.map_append, h.keys]; rfl, fun q hq => ?_⟩
  rcases List.mem_append.mp hq with hq | hq
  · exact h.rng q hq
  · rw [List.mem_singleton.mp hq]; exact ⟨h1, h2⟩
theorem Part.sz {kvs : List (Str × Int)} {zs : List Str} {l u : Int} (h : Part kvs zs l u) (hn : ∀ z ∈ zs, isNameL z = true) (nd : zs.Nodup) (few : zs.length ≤ 4) : Sz kvs l u :=
  ⟨fun q hq => hn _ (by rw [← h.keys]; exact List.mem_map.mpr ⟨q, hq, rfl⟩), by rw [h.keys]; exact nd, by have := congrArg List.length h.keys; rw [List.length_map] at this; omega, h.rng⟩
section
variable {P : Program} {w : World} {K : PySem.W.Frag} {mg : Str → Option Value} {base : Heap}
end
/-! ### the parts of rows, as letters -/
def shp1 : List (Str × Str) := [("put", "nc"), ("read", "nx"), ("write", "xc"), ("tell", "c"), ("send", "vc"), ("take", "nv"), ("hold", "lb")]
def shp2 : List (Str × Str) := [("rest", "t"), ("nest", "sb"), ("within", "tsb"), ("start", "sb"), ("off", "s"), ("shield", "b"), ("fail", "n")]
def shp3 : List (Str × Str) := [("catch", "bnb"), ("try", "bb"), ("if", "cbb"), ("often", "tb")]
theorem shp12 : mergeK (dz shp1) (dz shp2) = dz (shp1 ++ shp2) := by rw [mergeZ_dz]; congr 1
section
variable {P : Program} {w : World} {K : PySem.W.Frag} {mg : Str → Option Value} {base : Heap}
end
/-! ### the nests and withins around -/
def pairD (p : Str × Str) : PyData := .tuple [.str p.1, .str p.2]
structure PsOk (ps : List (Str × Str)) : Prop where
  names : ∀ p ∈ ps, isNameL p.1 = true
  words : ∀ p ∈ ps, p.2 = "nest" ∨ p.2 = "within"
  nd : (ps.map (·.1)).Nodup
  few : ps.length ≤ 10
theorem tup_pairs : ∀ ps : List (Str × Str), tupAll (ps.map pairD) = true
  | [] => rfl
  | p :: ps => by simp only [List.map_cons, tupAll, pairD, tupD, tup_pairs ps, Bool.and_self]
theorem good_pair {p : Str × Str} (h : isNameL p.1 = true) (h2 : p.2 = "nest" ∨ p.2 = "within") : Good (pairD p) 1 := Good.tup (fun x hx => by
  rcases List.mem_cons.mp hx with rfl | hx
  · exact Good.str (Low.of h) _
  · rw [List.mem_singleton.mp hx]
    refine Good.str (str_lit ?_) _
    rcases h2 with e | e <;> rw [e] <;> decide +kernel) (by show 2 ≤ 10000; decide)
theorem Good.lst {xs : List PyData} {n : Nat} (h : ∀ x ∈ xs, Good x n) (l : xs.length ≤ 10000) : Good (.list xs) (n + 1) := by
  refine ⟨?_, layAll_of fun x hx => (h x hx).lay, ?_⟩
  · simp only [okD, Bool.and_eq_true, decide_eq_true_eq]
    exact ⟨l, okAll_of fun x hx => (h x hx).ok⟩
  · have := depAll_of fun x hx => (h x hx).dep
    show PyData.depthAll xs + 1 ≤ n + 1
    omega
theorem PsOk.shaped {ps : List (Str × Str)} (h : PsOk ps) : SeqAt.shaped (.list (ps.map pairD)) = true := (Good.lst (n := 1) (fun x hx => by
  obtain ⟨p, hp, rfl⟩ := List.mem_map.mp hx
  exact good_pair (h.names p hp) (h.words p hp)) (by rw [List.length_map]; have := h.few; omega)).shaped (by decide)
theorem dp_strs : ∀ {K : PySem.W.Frag} {H : Hp} (zs : List Str), DpAll K H (zs.map V.str) (zs.map .str)
  | _, _, [] => .nil
  | _, _, z :: zs => .cons (.str z) (dp_strs zs)
theorem strs_shaped {zs : List Str} (h : ∀ z ∈ zs, isNameL z = true) (l : zs.length ≤ 1000) : SeqAt.shaped (.list (zs.map .str)) = true := (Good.lst (n := 0) (fun x hx => by
  obtain ⟨z, hz, rfl⟩ := List.mem_map.mp hx
  exact Good.str (Low.of (h z hz)) _) (by rw [List.length_map]; omega)).shaped (by decide)
theorem PsOk.sub {ps qs : List (Str × Str)} (h : PsOk ps) (s : qs.Sublist ps) : PsOk qs :=
  ⟨fun p hp => h.names p (s.subset hp), fun p hp => h.words p (s.subset hp), List.Nodup.sublist (s.map _) h.nd, Nat.le_trans s.length_le h.few⟩
theorem dp_pair {K : PySem.W.Frag} {H : Hp} {v : V} {p : Str × Str} (h : Dp K H v (pairD p)) : ∃ t : Addr, v = .ref t ∧ SqT K H t [.str p.1, .str p.2] := by
  obtain ⟨a, xs, rfl, hx, hall⟩ := dp_tup h
  cases hall with
  | cons h1 t =>
    cases h1
    cases t with
    | cons h2 t => cases h2; cases t; exact ⟨a, rfl, hx⟩
theorem eqv_nil {α : Type} (f : α → PyData) (xs : List α) : PyData.eqv (.list (xs.map f)) (.list []) = decide (xs.length = 0) := by
  cases xs with
  | nil => rfl
  | cons x xs => rfl
/-! ### the words that may stand -/
def base11 : List Str := ["put", "tell", "rest", "nest", "within", "shield", "fail", "catch", "try", "if", "often"]
def pick (b : Bool) (zs : List Str) : List Str := if b = true then zs else []
def nests (ps : List (Str × Str)) : List (Str × Str) := ps.filter fun p => decide (p.2 = "nest")
def possW (nc nl nh np : Bool) (ps : List (Str × Str)) : List Str :=
  (((base11 ++ pick nc ["read", "write"]) ++ pick nl ["hold"]) ++ pick nh ["send", "take"]) ++ pick np ["off"] ++ pick (!decide ((nests ps).length = 0)) ["start", "start"]
theorem pick_len (b : Bool) (zs : List Str) : (pick b zs).length ≤ zs.length := by
  unfold pick
  split
  · exact Nat.le_refl _
  · exact Nat.zero_le _
theorem poss_len (nc nl nh np : Bool) (ps : List (Str × Str)) : (possW nc nl nh np ps).length ≤ 30 := by
  unfold possW
  simp only [List.length_append]
  have h1 := pick_len nc ["read", "write"]
  have h2 := pick_len nl ["hold"]
  have h3 := pick_len nh ["send", "take"]
  have h4 := pick_len np ["off"]
  have h5 := pick_len (!decide ((nests ps).length = 0)) ["start", "start"]
  have h6 : base11.length = 11 := rfl
  simp only [List.length_cons, List.length_nil] at h1 h2 h3 h4 h5
  omega
theorem rep_pick (b : Bool) (zs : List Str) : (List.replicate ((if b = true then 1 else 0 : Int)).toNat (zs.map V.str)).flatten = (pick b zs).map V.str := by
  cases b with
  | true => show (List.replicate 1 _).flatten = _; simp [pick]
  | false => rfl
section
variable {P : Program} {w : World} {K : PySem.W.Frag} {mg : Str → Option Value} {base : Heap}
theorem rep_rd {H : Hp} {Q : VK} {l : Addr} {b : Bool} {zs : List Str} (h : H l = some (.lst (zs.map V.str))) (hz : zs.length ≤ 10) (q : ∀ p H', Same H H' → H' p = some (.lst ((pick b zs).map V.str)) → Q (.ref p) H') : rRep (.ref l) (.int (if b = true then 1 else 0)) H Q := by
  refine ⟨l, _, _, rfl, rfl, h, ?_, ?_, ?_, fun p np => ?_⟩
  · cases b <;> decide
  · cases b <;> decide
  · rw [List.length_map]
    have : (if b = true then 1 else 0 : Int).toNat ≤ 1 := by cases b <;> decide
    exact Nat.le_trans (Nat.mul_le_mul hz this) (by decide)
  · rw [rep_pick]
    exact q p _ (same_upd np) upd_same
theorem cat_rd {H : Hp} {Q : VK} {a b : Addr} {xs ys : List Str} (ha : H a = some (.lst (xs.map V.str))) (hb : H b = some (.lst (ys.map V.str))) (l : xs.length + ys.length ≤ 1000) (q : ∀ p H', H p = none → Same H H' → H' p = some (.lst ((xs ++ ys).map V.str)) → Q (.ref p) H') : rCat (.ref a) (.ref b) H Q := by
  refine ⟨a, b, _, _, rfl, rfl, ha, hb, by rw [List.length_map, List.length_map]; exact Nat.le_of_lt (small1000 l), fun p np => ?_⟩
  have e : xs.map V.str ++ ys.map V.str = (xs ++ ys).map V.str := by rw [List.map_append]
  rw [e]
  exact q p _ np (same_upd np) upd_same
theorem ne_empty {H : Hp} {Q : VK} {C e : Addr} {cs : List (Str × Int)} (hC : H C = some (.dK (dI cs))) (he : H e = some (.dK [])) (q : Q (.bl (!decide (cs.length = 0))) H) : rDB false (.ref C) (.ref e) H Q := by
  refine ⟨C, e, dI cs, [], rfl, rfl, hC, he, ?_⟩
  cases cs with
  | nil => exact .inl ⟨rfl, (fun p hp => by cases hp), q⟩
  | cons x cs => exact .inr ⟨by unfold dI; simp, q⟩
theorem neD_empty {H : Hp} {Q : VK} {a e : Addr} {α : Type} {xs : List α} {f : α → PyData} {vs : List V} (ha : H a = some (.lst vs)) (hv : DpAll K H vs (xs.map f)) (hs : SeqAt.shaped (.list (xs.map f)) = true) (he : H e = some (.lst [])) (q : Q (.bl (!decide (xs.length = 0))) H) : rNeD K (.ref a) (.ref e) H Q := by
  refine ⟨.list (xs.map f), .list [], .lst (sl ha) hv, .lst (sl he) .nil, hs, rfl, ?_⟩
  rw [eqv_nil]
  exact q
end
/-! ### right rows, as they are drawn -/
structure Rows (cn ls hn : List Str) (ps : List (Str × Str)) (deep : Nat) (oft : Int) (rows : List PyData) (k : Nat) : Prop where
  right : ∀ (n : Nat) (place : List Int), 10 ≤ n + deep → place.length = 2 * deep → wrongD cn ls hn (n + 1) rows place ps oft = none
  cnt : ∀ n : Nat, 10 ≤ n + deep → cntD (n + 1) rows = k
  good : ∀ r ∈ rows, Good r (2 * (10 - deep) + 1)
  tup : tupAll rows = true
  wt : wtAll rows ≤ 410 * k
structure Row1 (cn ls hn : List Str) (ps : List (Str × Str)) (deep : Nat) (oft : Int) (row : PyData) (k : Nat) : Prop where
  right : ∀ (n : Nat) (place : List Int) (i : Nat), 10 ≤ n + deep → place.length = 2 * deep → rowF cn ls hn n place ps oft i row = none
  cnt : ∀ n : Nat, 10 ≤ n + deep → 1 + ((bodiesD row).map fun b => cntD n (rowsD b)).sum = k
  good : Good row (2 * (10 - deep) + 1)
  tup : tupD row = true
  wt : wtD row ≤ 410 * k
section
variable {cn ls hn : List Str} {ps : List (Str × Str)} {deep : Nat} {oft : Int} {rows : List PyData} {row : PyData} {k m : Nat}
theorem Rows.nil : Rows cn ls hn ps deep oft [] 0 := ⟨fun n place _ _ => wrong_nil .., fun n _ => cnt_nil _, (fun _ h => by cases h), rfl, Nat.zero_le _⟩
theorem firstSome_app {α β : Type} {f : Nat → α → Option β} {xs ys : List α} {i : Nat} (h : firstSome f i xs = none) : firstSome f i (xs ++ ys) = firstSome f (i + xs.length) ys := by
  induction xs generalizing i with
  | nil => rfl
  | cons x xs ih =>
    simp only [firstSome, List.cons_append] at h ⊢
    cases e : f i x with
    | some b => rw [e] at h; cases h
    | none =>
      rw [e] at h
      dsimp only at h ⊢
      rw [ih h, List.length_cons]
      congr 1
      omega
theorem Rows.app {rows2 : List PyData} (h : Rows cn ls hn ps deep oft rows k) (h2 : ∀ (i n : Nat) (place : List Int), 10 ≤ n + deep → place.length = 2 * deep → firstSome (rowF cn ls hn n place ps oft) i rows2 = none) (c2 : ∀ n : Nat, 10 ≤ n + deep → cntD (n + 1) rows2 = m) (g2 : ∀ r ∈ rows2, Good r (2 * (10 - deep) + 1)) (t2 : tupAll rows2 = true) (w2 : wtAll rows2 ≤ 410 * m) :
    Rows cn ls hn ps deep oft (rows ++ rows2) (k + m) := by
  refine ⟨fun n place hn hp => ?_, fun n hn => by rw [cnt_app, h.cnt n hn, c2 n hn], fun r hr => ?_, tupAll_app h.tup t2, by rw [wt_app]; have := h.wt; omega⟩
  · have h1 := h.right n place hn hp
    rw [wrong_succ] at h1 ⊢
    rw [firstSome_app h1]
    exact h2 _ n place hn hp
  · rcases List.mem_append.mp hr with hr | hr
    · exact h.good r hr
    · exact g2 r hr
theorem Rows.snoc (h : Rows cn ls hn ps deep oft rows k) (r : Row1 cn ls hn ps deep oft row m) : Rows cn ls hn ps deep oft (rows ++ [row]) (k + m) := by
  refine h.app (fun i n place hn hp => ?_) (fun n hn => ?_) (fun x hx => by rw [List.mem_singleton.mp hx]; exact r.good) (by simp only [tupAll, r.tup, Bool.and_self]) (by show wtD row + 0 ≤ 410 * m; have := r.wt; omega)
  · simp only [firstSome]
    rw [r.right n place i hn hp]
  · have := r.cnt n hn
    simp only [cntD, List.map_cons, List.map_nil, List.sum_cons, List.sum_nil, Nat.add_zero]
    exact this
theorem firstSome_shift {cn ls hn : List Str} {n : Nat} {place : List Int} {ps : List (Str × Str)} {oft : Int} : ∀ {rows : List PyData} {i j : Nat}, firstSome (rowF cn ls hn n place ps oft) i rows = none → (∀ (a b : Nat) r, rowF cn ls hn n place ps oft a r = none → rowF cn ls hn n place ps oft b r = none) → firstSome (rowF cn ls hn n place ps oft) j rows = none
  | [], _, _, _, _ => rfl
  | r :: rows, i, j, h, hs => by
    simp only [firstSome] at h ⊢
    cases e : rowF cn ls hn n place ps oft i r with
    | some b => rw [e] at h; cases h
    | none =>
      rw [e] at h
      rw [hs i j r e]
      exact firstSome_shift h hs
theorem Rows.good1 (h : Rows cn ls hn ps deep oft rows k) (l : rows.length ≤ 10000) : Good (.tuple rows) (2 * (10 - deep) + 2) := Good.tup h.good l
/-! ### a row's parts -/
structure PartOk (cn ls hn : List Str) (ps ps' : List (Str × Str)) (deep : Nat) (more : Int) (nm kind : Str) (d : PyData) (k : Nat) : Prop where
  part : isPartD cn ls hn ps kind d = true
  good : Good d (2 * (9 - deep) + 2)
  tup : tupD d = true
  body : kind = "body" → ∃ rows, d = .tuple rows ∧ Rows cn ls hn ps' (deep + 1) more rows k
  none_ : kind ≠ "body" → k = 0
  txt : kind = "scope" ∨ kind = "home" ∨ kind = "entered" → d = .str nm
  wt : wtD d ≤ 130 + 410 * k
inductive Parts (cn ls hn : List Str) (ps ps' : List (Str × Str)) (deep : Nat) (more : Int) (nm : Str) : List Str → List PyData → Nat → Prop
  | nil : Parts cn ls hn ps ps' deep more nm [] [] 0
  | snoc {ks : List Str} {ds : List PyData} {k m : Nat} {kind : Str} {d : PyData} (h : Parts cn ls hn ps ps' deep more nm ks ds k) (p : PartOk cn ls hn ps ps' deep more nm kind d m) : Parts cn ls hn ps ps' deep more nm (ks ++ [kind]) (ds ++ [d]) (k + m)
variable {ps' : List (Str × Str)} {more : Int} {nm z : Str} {ks : List Str} {ds : List PyData}
theorem Parts.len (h : Parts cn ls hn ps ps' deep more nm ks ds k) : ks.length = ds.length := by
  induction h with
  | nil => rfl
  | snoc h p ih => rw [List.length_append, List.length_append, ih]; rfl
theorem zip_snoc {α β : Type} : ∀ {xs : List α} {ys : List β} {a : α} {b : β}, xs.length = ys.length → (xs ++ [a]).zip (ys ++ [b]) = xs.zip ys ++ [(a, b)]
  | [], [], _, _, _ => rfl
  | x :: xs, y :: ys, a, b, h => by
    rw [List.cons_append, List.cons_append, List.zip_cons_cons, zip_snoc (Nat.succ.inj h)]
    rfl
theorem Parts.each (h : Parts cn ls hn ps ps' deep more nm ks ds k) : ∀ q ∈ ks.zip ds, isPartD cn ls hn ps q.1 q.2 = true ∧ Good q.2 (2 * (9 - deep) + 2) ∧ tupD q.2 = true ∧ (q.1 = "scope" ∨ q.1 = "home" ∨ q.1 = "entered" → q.2 = .str nm) := by
  induction h with
  | nil => intro q hq; cases hq
  | snoc h p ih =>
    intro q hq
    rw [zip_snoc h.len] at hq
    rcases List.mem_append.mp hq with hq | hq
    · exact ih q hq
    · rw [List.mem_singleton.mp hq]
      exact ⟨p.part, p.good, p.tup, p.txt⟩
theorem Parts.bods (h : Parts cn ls hn ps ps' deep more nm ks ds k) : (∀ b ∈ bodiesV ks ds, ∃ rows m, b = .tuple rows ∧ Rows cn ls hn ps' (deep + 1) more rows m) ∧ ∀ n : Nat, 10 ≤ n + (deep + 1) → ((bodiesV ks ds).map fun b => cntD (n + 1) (rowsD b)).sum = k := by
  induction h with
  | nil => exact ⟨(fun b hb => by cases hb), fun n _ => rfl⟩
  | @snoc ks ds k m kind d h p ih =>
    rw [bodiesV_snoc _ _ _ _ h.len]
    by_cases hk : kind = "body"
    · obtain ⟨rows, rfl, hr⟩ := p.body hk
      rw [if_pos hk]
      refine ⟨fun b hb => ?_, fun n hn => ?_⟩
      · rcases List.mem_append.mp hb with hb | hb
        · exact ih.1 b hb
        · rw [List.mem_singleton.mp hb]; exact ⟨rows, m, rfl, hr⟩
      · rw [List.map_append, List.sum_append, ih.2 n hn]
        show k + (cntD (n + 1) rows + 0) = k + m
        rw [hr.cnt n hn]
        rfl
    · rw [if_neg hk, List.append_nil, p.none_ hk]
      exact ih
theorem Parts.wt (h : Parts cn ls hn ps ps' deep more nm ks ds k) : wtAll ds ≤ 130 * ds.length + 410 * k := by
  induction h with
  | nil => exact Nat.zero_le _
  | @snoc ks ds k m kind d h p ih =>
    rw [wt_app, List.length_append]
    have := p.wt
    show wtAll ds + (wtD d + 0) ≤ 130 * (ds.length + 1) + 410 * (k + m)
    omega
theorem zip_fst_mem {α β : Type} : ∀ {xs : List α} {ys : List β}, xs.length = ys.length → ∀ y ∈ ys, ∃ x, (x, y) ∈ xs.zip ys
  | [], [], _, y, h => by cases h
  | x :: xs, b :: ys, h, y, hy => by
    rcases List.mem_cons.mp hy with rfl | hy
    · exact ⟨x, List.mem_cons_self ..⟩
    · obtain ⟨u, hu⟩ := zip_fst_mem (Nat.succ.inj h) y hy
      exact ⟨u, List.mem_cons_of_mem _ hu⟩
/-- the row is whole -/
theorem row_done (hk : kindsOf z = some ks) (hz : Low z) (hz6 : z.length ≤ 6) (h : Parts cn ls hn ps ps' deep more nm ks ds k) (ha : arD (.tuple (.str z :: ds)) ps = ps') (ho : oft + oftD (.tuple (.str z :: ds)) = more) (hm : more ≤ 3) (hd : deep ≤ 9) : Row1 cn ls hn ps deep oft (.tuple (.str z :: ds)) (1 + k) := by
  have hl := h.len
  have l3 := kinds_len hk
  have eb : bodiesD (.tuple (.str z :: ds)) = bodiesV ks ds := by simp only [bodiesD, hk]
  have row : isRowD cn ls hn ps (.tuple (.str z :: ds)) = true := by
    simp only [isRowD, hk]
    rw [decide_eq_true hl.symm, Bool.true_and, List.all_eq_true]
    exact fun q hq => (h.each q hq).1
  refine ⟨fun n place i hn hp => ?_, fun n hn => ?_, ?_, ?_, ?_⟩
  · refine rowF_none' (by omega) row (by rw [ho]; exact hm) fun j b e => ?_
    rw [eb] at e
    obtain ⟨rows, m, rfl, hr⟩ := h.bods.1 b (List.mem_of_getElem? e)
    rw [ha, ho]
    obtain ⟨n', rfl⟩ : ∃ n', n = n' + 1 := ⟨n - 1, by omega⟩
    exact hr.right n' _ (by omega) (by simp; omega)
  · rw [eb]
    obtain ⟨n', rfl⟩ : ∃ n', n = n' + 1 := ⟨n - 1, by omega⟩
    rw [h.bods.2 n' (by omega)]
  · refine (Good.tup (n := 2 * (9 - deep) + 2) (fun x hx => ?_) (by rw [List.length_cons]; omega)).mono (by omega)
    rcases List.mem_cons.mp hx with rfl | hx
    · exact Good.str hz _
    · obtain ⟨u, hu⟩ := zip_fst_mem hl x hx
      exact (h.each _ hu).2.1
  · have : ∀ xs : List PyData, (∀ x ∈ xs, tupD x = true) → tupAll xs = true := fun xs => by
      induction xs with
      | nil => intro _; rfl
      | cons x xs ih =>
        intro hx
        simp only [tupAll, Bool.and_eq_true]
        exact ⟨hx x (List.mem_cons_self ..), ih fun y hy => hx y (List.mem_cons_of_mem _ hy)⟩
    show (tupD (.str z) && tupAll ds) = true
    rw [this ds fun x hx => (h.each _ (zip_fst_mem hl x hx).choose_spec).2.2.1]
    rfl
  · have := h.wt
    show 4 + (z.length + 4 + wtAll ds) ≤ 410 * (1 + k)
    omega
end
/-! ### letters and kinds -/
def kindL (z : Str) (c : Nat) : Str :=
  if c = 110 then "name" else if c = 99 then "calc" else if c = 120 then "cell" else if c = 108 then "lock" else if c = 118 then "channel" else if c = 98 then "body"
  else if c = 115 then (if z = "start" then "home" else if z = "off" then "entered" else "scope") else (if z = "rest" then "rest" else if z = "within" then "span" else "times")
/-! ### which words may stand -/
theorem poss_mem {nc nl nh np : Bool} {ps : List (Str × Str)} {z : Str} (h : z ∈ possW nc nl nh np ps) : (∃ ks, kindsOf z = some ks) ∧ Low z ∧ (z = "read" ∨ z = "write" → nc = true) ∧ (z = "hold" → nl = true) ∧ (z = "send" ∨ z = "take" → nh = true) ∧ (z = "off" → np = true) ∧ (z = "start" → nests ps ≠ []) := by
  unfold possW at h
  simp only [List.mem_append] at h
  have pk : ∀ {b : Bool} {zs : List Str}, z ∈ pick b zs → b = true ∧ z ∈ zs := fun {b zs} h => by
    unfold pick at h
    cases b with
    | true => exact ⟨rfl, h⟩
    | false => cases h
  have all : ∀ y ∈ partsL.map (·.1), (∃ ks, kindsOf y = some ks) ∧ Low y := fun y hy => by
    obtain ⟨q, hq, rfl⟩ := List.mem_map.mp hy
    have h1 : ∀ q ∈ partsL, (kindsOf q.1).isSome = true ∧ (decide (q.1.length ≤ 20) && q.1.cps.toList.all isLow) = true := by decide +kernel
    obtain ⟨a, b⟩ := h1 q hq
    exact ⟨Option.isSome_iff_exists.mp a, str_lit b⟩
  rcases h with ((((h | h) | h) | h) | h) | h
  · have m : ∀ y ∈ base11, y ∈ partsL.map (·.1) ∧ y ≠ "read" ∧ y ≠ "write" ∧ y ≠ "hold" ∧ y ≠ "send" ∧ y ≠ "take" ∧ y ≠ "off" ∧ y ≠ "start" := by decide +kernel
    obtain ⟨m0, m1, m2, m3, m4, m5, m6, m7⟩ := m z h
    exact ⟨(all z m0).1, (all z m0).2, fun e => absurd e (by simp [m1, m2]), fun e => absurd e m3, fun e => absurd e (by simp [m4, m5]), fun e => absurd e m6, fun e => absurd e m7⟩
  · obtain ⟨b, h⟩ := pk h
    have m : ∀ y ∈ (["read", "write"] : List Str), y ∈ partsL.map (·.1) ∧ y ≠ "hold" ∧ y ≠ "send" ∧ y ≠ "take" ∧ y ≠ "off" ∧ y ≠ "start" := by decide +kernel
    obtain ⟨m0, m3, m4, m5, m6, m7⟩ := m z h
    exact ⟨(all z m0).1, (all z m0).2, fun _ => b, fun e => absurd e m3, fun e => absurd e (by simp [m4, m5]), fun e => absurd e m6, fun e => absurd e m7⟩
  · obtain ⟨b, h⟩ := pk h
    have m : ∀ y ∈ (["hold"] : List Str), y ∈ partsL.map (·.1) ∧ y ≠ "read" ∧ y ≠ "write" ∧ y ≠ "send" ∧ y ≠ "take" ∧ y ≠ "off" ∧ y ≠ "start" := by decide +kernel
    obtain ⟨m0, m1, m2, m4, m5, m6, m7⟩ := m z h
    exact ⟨(all z m0).1, (all z m0).2, fun e => absurd e (by simp [m1, m2]), fun _ => b, fun e => absurd e (by simp [m4, m5]), fun e => absurd e m6, fun e => absurd e m7⟩
  · obtain ⟨b, h⟩ := pk h
    have m : ∀ y ∈ (["send", "take"] : List Str), y ∈ partsL.map (·.1) ∧ y ≠ "read" ∧ y ≠ "write" ∧ y ≠ "hold" ∧ y ≠ "off" ∧ y ≠ "start" := by decide +kernel
    obtain ⟨m0, m1, m2, m3, m6, m7⟩ := m z h
    exact ⟨(all z m0).1, (all z m0).2, fun e => absurd e (by simp [m1, m2]), fun e => absurd e m3, fun _ => b, fun e => absurd e m6, fun e => absurd e m7⟩
  · obtain ⟨b, h⟩ := pk h
    have m : ∀ y ∈ (["off"] : List Str), y ∈ partsL.map (·.1) ∧ y ≠ "read" ∧ y ≠ "write" ∧ y ≠ "hold" ∧ y ≠ "send" ∧ y ≠ "take" ∧ y ≠ "start" := by decide +kernel
    obtain ⟨m0, m1, m2, m3, m4, m5, m7⟩ := m z h
    exact ⟨(all z m0).1, (all z m0).2, fun e => absurd e (by simp [m1, m2]), fun e => absurd e m3, fun e => absurd e (by simp [m4, m5]), fun _ => b, fun e => absurd e m7⟩
  · obtain ⟨b, h⟩ := pk h
    have m : ∀ y ∈ (["start", "start"] : List Str), y ∈ partsL.map (·.1) ∧ y ≠ "read" ∧ y ≠ "write" ∧ y ≠ "hold" ∧ y ≠ "send" ∧ y ≠ "take" ∧ y ≠ "off" := by decide +kernel
    obtain ⟨m0, m1, m2, m3, m4, m5, m6⟩ := m z h
    exact ⟨(all z m0).1, (all z m0).2, fun e => absurd e (by simp [m1, m2]), fun e => absurd e m3, fun e => absurd e (by simp [m4, m5]), fun e => absurd e m6, fun _ e => by rw [e] at b; cases b⟩
theorem kinds_word {z : Str} {ks : List Str} (h : kindsOf z = some ks) : z.length ≤ 6 := by
  have : ∀ q ∈ partsL, q.1.length ≤ 6 := by decide +kernel
  exact this _ (kindsOf_mem h)
/-! ### what is around within -/
theorem ar_of {z nm : Str} {ps : List (Str × Str)} {ks : List Str} {ds : List PyData} (hk : kindsOf z = some ks) (hl : ks.length = ds.length) (ht : ∀ q ∈ ks.zip ds, (q.1 = "scope" ∨ q.1 = "home" ∨ q.1 = "entered" → q.2 = .str nm)) : arD (.tuple (.str z :: ds)) ps = aroundP z nm nm ps := by
  unfold arD
  show aroundP z (homeD (.tuple (.str z :: ds))) (lastD (.tuple (.str z :: ds))) ps = _
  unfold aroundP
  by_cases h1 : z = "start"
  · subst h1
    rw [if_pos rfl, if_pos rfl]
    rw [kinds_start] at hk
    cases hk
    match ds, hl with
    | [a, b], _ =>
      have := ht ("home", a) (List.mem_cons_self ..) (.inr (.inl rfl))
      dsimp only at this
      subst this
      rfl
  · rw [if_neg h1, if_neg h1]
    by_cases h2 : z = "nest"
    · subst h2
      rw [if_pos (.inl rfl), if_pos (.inl rfl)]
      rw [kinds_nest] at hk
      cases hk
      match ds, hl with
      | [a, b], _ =>
        have := ht ("scope", a) (List.mem_cons_self ..) (.inl rfl)
        dsimp only at this
        subst this
        rfl
    · by_cases h3 : z = "within"
      · subst h3
        rw [if_pos (.inr rfl), if_pos (.inr rfl)]
        rw [kinds_within] at hk
        cases hk
        match ds, hl with
        | [t, a, b], _ =>
          have := ht ("scope", a) (List.mem_cons_of_mem _ (List.mem_cons_self ..)) (.inl rfl)
          dsimp only at this
          subst this
          rfl
      · rw [if_neg (fun h => h.elim h2 h3), if_neg (fun h => h.elim h2 h3)]
/-! ### a row -/
/-- the name told, and what is around within -/
structure Named (ps ps' : List (Str × Str)) (z nm : Str) : Prop where
  own : z = "nest" ∨ z = "within" → isNameL nm = true ∧ nm ∉ ps.map (·.1)
  off : z = "off" → nm ∈ ps.map (·.1)
  home : z = "start" → (nm, ("nest" : Str)) ∈ ps
  ar : aroundP z nm nm ps = ps'
section
variable {P : Program} {w : World} {K : PySem.W.Frag} {mg : Str → Option Value} {base : Heap}
/-- where it may be started or called off -/
def hcd (z : Str) (ps : List (Str × Str)) (k : Nat) : Bool := decide (z = "off") || decide ((ps[k]?).map (·.2) = some ("nest" : Str))
def homes (z : Str) (ps : List (Str × Str)) (i : Nat) : List Nat := (List.range i).filter (hcd z ps)
theorem dpAll_take {K : PySem.W.Frag} {H : Hp} : ∀ {n : Nat} {vs : List V} {xs : List PyData}, DpAll K H vs xs → DpAll K H (vs.take n) (xs.take n)
  | 0, _, _, _ => .nil
  | n + 1, _, _, .nil => .nil
  | n + 1, _, _, .cons a b => .cons a (dpAll_take b)
theorem idx_nd {l : List Str} (h : l.Nodup) {k : Nat} (hk : k < l.length) : l.idxOf l[k] = k := by
  have m : l[k] ∈ l := List.getElem_mem hk
  have l1 : l.idxOf l[k] < l.length := List.idxOf_lt_length_of_mem m
  have e1 : l[l.idxOf l[k]] = l[k] := List.getElem_idxOf l1
  rcases Nat.lt_trichotomy (l.idxOf l[k]) k with h1 | h1 | h1
  · exact absurd e1 (List.pairwise_iff_getElem.mp h _ _ l1 hk h1)
  · exact h1
  · exact absurd e1.symm (List.pairwise_iff_getElem.mp h _ _ hk l1 h1)
def yspare : List Str := ["ya", "yb", "yc", "yd", "ye", "yf", "yg", "yh", "yi", "yj"]
theorem yspare_names : ∀ z ∈ yspare, isNameL z = true := by decide +kernel
theorem yspare_nodup : yspare.Nodup := by decide +kernel
/-! ### the loop over the parts -/
theorem Parts.tup {cn ls hn : List Str} {ps ps' : List (Str × Str)} {deep k : Nat} {more : Int} {nm : Str} {ks : List Str} {ds : List PyData} (h : Parts cn ls hn ps ps' deep more nm ks ds k) : tupAll ds = true := by
  induction h with
  | nil => rfl
  | snoc h p ih => exact tupAll_app ih (by simp only [tupAll, p.tup, Bool.and_self])
variable {H0 H H' : Hp} {d g c pl C L Ch W rp : Addr} {cs : List (Str × Int)} {ls : List Str} {hs : List (Str × Int)} {ws : List Str} {ps ps' : List (Str × Str)} {deep : Nat} {more : Int} {nm z s : Str} {i k k' m m' : Nat} {vs : List V} {ds : List PyData} {v : V} {x : PyData}
end
/-! ### parts -/
section
variable {cs ls hs : List Str} {ps ps' : List (Str × Str)} {deep : Nat} {more : Int} {nm z kind : Str} {d : PyData}
theorem PartOk.leaf (h : isPartD cs ls hs ps kind d = true) (g : Good d 2) (t : tupD d = true) (hw : wtD d ≤ 130) (hb : kind ≠ "body") (ht : kind = "scope" ∨ kind = "home" ∨ kind = "entered" → d = .str nm) : PartOk cs ls hs ps ps' deep more nm kind d 0 :=
  ⟨h, g.mono (by omega), t, fun e => absurd e hb, fun _ => rfl, ht, hw⟩
theorem mergeZ_new : ∀ (ps acc : List (Str × Str)), ((acc ++ ps).map (·.1)).Nodup → mergeZ acc ps = acc ++ ps
  | [], acc, _ => by rw [List.append_nil]; rfl
  | p :: ps, acc, h => by
    have e : putZ acc p.1 p.2 = acc ++ [p] := by
      unfold putZ
      rw [if_neg]
      intro ha
      obtain ⟨q, hq, hqp⟩ := List.any_eq_true.mp ha
      rw [List.map_append, List.nodup_append] at h
      exact h.2.2 q.1 (List.mem_map.mpr ⟨q, hq, rfl⟩) p.1 (by rw [List.map_cons]; exact List.mem_cons_self ..) (of_decide_eq_true hqp)
    show mergeZ (putZ acc p.1 p.2) ps = _
    rw [e, mergeZ_new ps (acc ++ [p]) (by rw [List.append_assoc]; exact h), List.append_assoc]
    rfl
theorem look_in (h : PsOk ps) {w : Str} (hm : (z, w) ∈ ps) : lookW ps z = some w := by
  unfold lookW
  rw [mergeZ_new ps [] h.nd, List.nil_append]
  exact (lookS_mem h.nd).mpr hm
theorem part_hm (h : PsOk ps) (hm : (z, ("nest" : Str)) ∈ ps) : isPartD cs ls hs ps "home" (.str z) = true := by
  show (isNameL z && decide (lookW ps z = some ("nest" : Str))) = true
  rw [h.names _ hm, look_in h hm]
  rfl
theorem part_of (h : PsOk ps) (hm : z ∈ ps.map (·.1)) : isPartD cs ls hs ps "entered" (.str z) = true := by
  obtain ⟨q, hq, rfl⟩ := List.mem_map.mp hm
  show (isNameL q.1 && (decide (("entered" : Str) = "name") || decide ((lookW ps q.1).isSome = decide (("entered" : Str) = "entered")))) = true
  rw [h.names _ hq, look_in h (w := q.2) hq]
  rfl
theorem part_cell (h : isNameL z = true) (hm : z ∈ cs) : isPartD cs ls hs ps "cell" (.str z) = true := by
  show (isNameL z && decide (z ∈ cs)) = true
  rw [h, decide_eq_true hm]
  rfl
theorem part_lock (h : isNameL z = true) (hm : z ∈ ls) : isPartD cs ls hs ps "lock" (.str z) = true := by
  show (isNameL z && decide (z ∈ ls)) = true
  rw [h, decide_eq_true hm]
  rfl
theorem part_lane (h : isNameL z = true) (hm : z ∈ hs) : isPartD cs ls hs ps "channel" (.str z) = true := by
  show (isNameL z && decide (z ∈ hs)) = true
  rw [h, decide_eq_true hm]
  rfl
theorem part_rng {lo hi i : Int} (hr : rangeOf kind = some (lo, hi)) (h1 : kind ≠ "calc") (h2 : kind ≠ "body") (h3 : lo ≤ i) (h4 : i ≤ hi) : isPartD cs ls hs ps kind (.int i) = true := by
  unfold isPartD
  rw [if_neg h1, if_neg h2, hr]
  show (decide (lo ≤ i) && decide (i ≤ hi)) = true
  rw [decide_eq_true h3, decide_eq_true h4]
  rfl
end
section
variable {P : Program} {w : World} {K : PySem.W.Frag} {mg : Str → Option Value} {base : Heap}
def xlvD : List (Str × Str) := [("x", "cells"), ("l", "locks"), ("v", "channels")]
theorem xlv_x {H : Hp} {e : Addr} (h : H e = some (.dK (dz xlvD))) : DGet H e (.str ⟨#[120]⟩) (some (.str "cells")) := .inl ⟨_, Sum.inr ⟨#[120]⟩, .inl h, rfl, by rw [lookS_val, show lookS xlvD ⟨#[120]⟩ = some ("cells" : Str) by decide +kernel]; rfl⟩
theorem xlv_l {H : Hp} {e : Addr} (h : H e = some (.dK (dz xlvD))) : DGet H e (.str ⟨#[108]⟩) (some (.str "locks")) := .inl ⟨_, Sum.inr ⟨#[108]⟩, .inl h, rfl, by rw [lookS_val, show lookS xlvD ⟨#[108]⟩ = some ("locks" : Str) by decide +kernel]; rfl⟩
theorem xlv_v {H : Hp} {e : Addr} (h : H e = some (.dK (dz xlvD))) : DGet H e (.str ⟨#[118]⟩) (some (.str "channels")) := .inl ⟨_, Sum.inr ⟨#[118]⟩, .inl h, rfl, by rw [lookS_val, show lookS xlvD ⟨#[118]⟩ = some ("channels" : Str) by decide +kernel]; rfl⟩
end
/-! ### a body -/
section
variable {P : Program} {w : World} {K : PySem.W.Frag} {mg : Str → Option Value} {base : Heap}
end
/-! ### a right program -/
theorem firstSome_imp {α β γ : Type} {f : Nat → α → Option β} {f2 : Nat → α → Option γ} : ∀ {xs : List α} {i i2 : Nat}, (∀ a b x, f a x = none → f2 b x = none) → firstSome f i xs = none → firstSome f2 i2 xs = none
  | [], _, _, _, _ => rfl
  | x :: xs, i, i2, hs, h => by
    simp only [firstSome] at h ⊢
    cases e : f i x with
    | some b => rw [e] at h; cases h
    | none =>
      rw [e] at h
      rw [hs i i2 x e]
      exact firstSome_imp hs h
theorem firstSome_imp0 {α β γ : Type} {f : Nat → α → Option β} {f2 : Nat → α → Option γ} : ∀ {xs : List α} {i : Nat}, (∀ a x, f a x = none → f2 a x = none) → firstSome f i xs = none → firstSome f2 i xs = none
  | [], _, _, _ => rfl
  | x :: xs, i, hs, h => by
    simp only [firstSome] at h ⊢
    cases e : f i x with
    | some b => rw [e] at h; cases h
    | none =>
      rw [e] at h
      rw [hs i x e]
      exact firstSome_imp0 hs h
/-- whether rows are right does not hang on where they stand -/
theorem wrong_place {cs ls hs : List Str} : ∀ (n : Nat) (rows : List PyData) (pl pl' : List Int) (ps : List (Str × Str)) (oft : Int), pl.length = pl'.length → wrongD cs ls hs n rows pl ps oft = none → wrongD cs ls hs n rows pl' ps oft = none
  | 0, _, _, _, _, _, _, _ => rfl
  | n + 1, rows, pl, pl', ps, oft, hl, h => by
    rw [wrong_succ] at h ⊢
    refine firstSome_imp (fun a b r e => ?_) h
    unfold rowF at e ⊢
    rw [← hl]
    split at e
    · cases e
    · rename_i h1
      rw [if_neg h1]
      split at e
      · cases e
      · rename_i h2
        rw [if_neg h2]
        exact firstSome_imp0 (fun j bd e => wrong_place n _ _ _ _ _ (by simp [hl]) e) e
theorem row_place {cs ls hs : List Str} {n : Nat} {pl : List Int} {ps : List (Str × Str)} {oft : Int} {a b : Nat} {r : PyData} (e : rowF cs ls hs n pl ps oft a r = none) : rowF cs ls hs n pl ps oft b r = none := by
  unfold rowF at e ⊢
  split at e
  · cases e
  · rename_i h1
    rw [if_neg h1]
    split at e
    · cases e
    · rename_i h2
      rw [if_neg h2]
      exact firstSome_imp0 (fun j bd e => wrong_place n _ _ _ _ _ (by simp) e) e
theorem Rows.cat {cn ls hn : List Str} {ps : List (Str × Str)} {deep k m : Nat} {oft : Int} {rows rows2 : List PyData} (h : Rows cn ls hn ps deep oft rows k) (h2 : Rows cn ls hn ps deep oft rows2 m) : Rows cn ls hn ps deep oft (rows ++ rows2) (k + m) :=
  h.app (fun i n place hn hp => by
    have := h2.right n place hn hp
    rw [wrong_succ] at this
    exact firstSome_shift this fun _ _ _ e => row_place e) h2.cnt h2.good h2.tup h2.wt
section
variable {P : Program} {w : World} {K : PySem.W.Frag} {mg : Str → Option Value} {base : Heap}
end
end TP
namespace TP
open PySem PySem.Spec PyProof.Rows L2 HX HB HG HU HH HD HS HV HQ HK HN TL HM
theorem passN {X : Cx} : Passes (L2.CX X.prog X.w) X E0 := fun _ _ _ _ _ _ _ h => by
  obtain ⟨_, _, _, _, _, _, _, _, _, _, _, _, h⟩ := h
  exact h.elim
def rot3 {α : Type} : List α → List α
  | [a, b, c] => [c, a, b]
  | l => l
def swp3 {α : Type} : List α → List α
  | [a, b, c] => [c, b, a]
  | l => l
def rol3 {α : Type} : List α → List α
  | [a, b, c] => [b, c, a]
  | l => l
theorem vals_rot3 {zs : List V} {ws : List Value} (h : Vals zs ws) : Vals (rot3 zs) (rot3 ws) := by
  match zs, ws, h with
  | [], _, .nil => exact .nil
  | [_], _, .cons a .nil => exact .cons a .nil
  | [_, _], _, .cons a (.cons b .nil) => exact .cons a (.cons b .nil)
  | [_, _, _], _, .cons a (.cons b (.cons c .nil)) => exact .cons c (.cons a (.cons b .nil))
  | _ :: _ :: _ :: _ :: _, _, .cons a (.cons b (.cons c (.cons d t))) => exact .cons a (.cons b (.cons c (.cons d t)))
theorem vals_swp3 {zs : List V} {ws : List Value} (h : Vals zs ws) : Vals (swp3 zs) (swp3 ws) := by
  match zs, ws, h with
  | [], _, .nil => exact .nil
  | [_], _, .cons a .nil => exact .cons a .nil
  | [_, _], _, .cons a (.cons b .nil) => exact .cons a (.cons b .nil)
  | [_, _, _], _, .cons a (.cons b (.cons c .nil)) => exact .cons c (.cons b (.cons a .nil))
  | _ :: _ :: _ :: _ :: _, _, .cons a (.cons b (.cons c (.cons d t))) => exact .cons a (.cons b (.cons c (.cons d t)))
theorem vals_rol3 {zs : List V} {ws : List Value} (h : Vals zs ws) : Vals (rol3 zs) (rol3 ws) := by
  match zs, ws, h with
  | [], _, .nil => exact .nil
  | [_], _, .cons a .nil => exact .cons a .nil
  | [_, _], _, .cons a (.cons b .nil) => exact .cons a (.cons b .nil)
  | [_, _, _], _, .cons a (.cons b (.cons c .nil)) => exact .cons b (.cons c (.cons a .nil))
  | _ :: _ :: _ :: _ :: _, _, .cons a (.cons b (.cons c (.cons d t))) => exact .cons a (.cons b (.cons c (.cons d t)))
theorem prog_none {cs : List (Str × Int)} {ls : List Str} {hs : List (Str × Int)} {ws : List Str} {rows : List PyData} {m : Nat} (N : Nm cs ls hs ws) (h : Rows (cs.map (·.1)) ls (hs.map (·.1)) [] 0 0 rows m) (h60 : m ≤ 60) : progD 22 cs ls hs (.tuple rows) = none ∧ (placesD 22 rows []).length = m ∧ wrongD (cs.map (·.1)) ls (hs.map (·.1)) 22 rows [] [] 0 = none := by
  have e1 : (placesD 22 rows []).length = m := by rw [places_len]; exact h.cnt 21 (by decide)
  have e2 : wrongD (cs.map (·.1)) ls (hs.map (·.1)) 22 rows [] [] 0 = none := h.right 21 [] (by decide) rfl
  refine ⟨?_, e1, e2⟩
  have e2 : firstD (cs.map (·.1)) ls (hs.map (·.1)) 22 (.tuple rows) = none := e2
  unfold progD
  rw [N.cells.sizes, N.locksD, N.lanes.sizes, e2]
  show (if (placesD 22 rows []).length ≤ 60 then none else some []) = none
  rw [e1, if_pos h60]
theorem Same.V1 {x dx : Addr} {H H' : Hp} {o1 o2 : HO} (nx : H x = none) (nd : H dx = none) (v : V1 x (upd (upd H dx o1) x o2) H') : Same H H' := fun b o h => v b o ((((Same.refl H).own nd).own nx) b o h) (fun e => by rw [e, nx] at h; cases h)
/-- a program that stands: all of it -/
structure Pf (K : PySem.W.Frag) (H0 H : Hp) (p C : Addr) (cs : List (Str × Int)) (ls : List Str) (hs : List (Str × Int)) (rows : List PyData) (spots : List (List Int)) : Prop where
  ex : ∃ (dx s f l w : Addr) (b : V) (vs : List V), H p = some (.ins C dx [("spots", .ref s), ("tree", b), ("first", .ref f), ("bolts", .ref l), ("widths", .ref w)]) ∧ Dp K H b (.tuple rows) ∧ H s = some (.lst vs) ∧ PL K H vs spots ∧ H f = some (.dK (dI cs)) ∧ H l = some (.lst (ls.map V.str)) ∧ H w = some (.dK (dI hs)) ∧ H0 p = none ∧ H0 s = none ∧ H0 f = none ∧ H0 l = none ∧ H0 w = none
  tup : tupAll rows = true
theorem Pf.keep {K : PySem.W.Frag} {H0 H H' : Hp} {p C : Addr} {cs : List (Str × Int)} {ls : List Str} {hs : List (Str × Int)} {rows : List PyData} {spots : List (List Int)} (g : Pf K H0 H p C cs ls hs rows spots) (k : ∀ b o, H b = some o → H0 b = none → H' b = some o) (kt : ∀ a xs, SqT K H a xs → SqT K H' a xs) : Pf K H0 H' p C cs ls hs rows spots := by
  obtain ⟨⟨dx, s, f, l, w, b, vs, hp, hb, hs', hPL, hf, hl, hw, n1, n2, n3, n4, n5⟩, z7⟩ := g
  exact ⟨⟨dx, s, f, l, w, b, vs, k _ _ hp n1, dp_keep kt (show tupD (.tuple rows) = true from z7) hb, k _ _ hs' n2, paired_imp (fun _ _ ⟨t, e, h⟩ => ⟨t, e, kt _ _ h⟩) hPL, k _ _ hf n3, k _ _ hl n4, k _ _ hw n5, n1, n2, n3, n4, n5⟩, z7⟩
theorem Pf.same {K : PySem.W.Frag} {H0 H H' : Hp} {p C : Addr} {cs : List (Str × Int)} {ls : List Str} {hs : List (Str × Int)} {rows : List PyData} {spots : List (List Int)} (g : Pf K H0 H p C cs ls hs rows spots) (s : Same H H') : Pf K H0 H' p C cs ls hs rows spots := g.keep (fun b o h _ => s b o h) fun _ _ h => s.sqt h
theorem Pf.base {K : PySem.W.Frag} {H0 H1 H : Hp} {p C : Addr} {cs : List (Str × Int)} {ls : List Str} {hs : List (Str × Int)} {rows : List PyData} {spots : List (List Int)} (g : Pf K H0 H p C cs ls hs rows spots) (k : ∀ b, H0 b = none → H1 b = none) : Pf K H1 H p C cs ls hs rows spots := by
  obtain ⟨⟨dx, s, f, l, w, b, vs, hp, hb, hs', hPL, hf, hl, hw, n1, n2, n3, n4, n5⟩, z7⟩ := g
  exact ⟨⟨dx, s, f, l, w, b, vs, hp, hb, hs', hPL, hf, hl, hw, k _ n1, k _ n2, k _ n3, k _ n4, k _ n5⟩, z7⟩
theorem Pf.base2 {K : PySem.W.Frag} {H0 H1 H : Hp} {p C : Addr} {cs : List (Str × Int)} {ls : List Str} {hs : List (Str × Int)} {rows : List PyData} {spots : List (List Int)} (g : Pf K H0 H p C cs ls hs rows spots) (k : ∀ b o, H b = some o → H0 b = none → H1 b = none) : Pf K H1 H p C cs ls hs rows spots := by
  obtain ⟨⟨dx, s, f, l, w, b, vs, hp, hb, hs', hPL, hf, hl, hw, n1, n2, n3, n4, n5⟩, z7⟩ := g
  exact ⟨⟨dx, s, f, l, w, b, vs, hp, hb, hs', hPL, hf, hl, hw, k _ _ hp n1, k _ _ hs' n2, k _ _ hf n3, k _ _ hl n4, k _ _ hw n5⟩, z7⟩
/-- what Program's making leaves -/
theorem Pf.made {K : PySem.W.Frag} {H H' : Hp} {x dx C : Addr} {b : V} {cs : List (Str × Int)} {ls : List Str} {hs : List (Str × Int)} {rows : List PyData} {spots : List (List Int)} (nx : H x = none) (ndx : H dx = none) (O : PObj K (upd (upd H dx (.own x)) x (.ins C dx [])) H' x C b cs ls hs spots) (hd : Dp K H b (.tuple rows)) (v1 : V1 x (upd (upd H dx (.own x)) x (.ins C dx [])) H') (t : tupAll rows = true) : Pf K H H' x C cs ls hs rows spots := by
  obtain ⟨dx', s', f, l, wd, vs, hp, hs', hPL, hf, hl, hw, _, _, f1, f2, f3, f4⟩ := O.ex
  have sc : Same H (upd (upd H dx (.own x)) x (.ins C dx [])) := ((Same.refl H).own ndx).own nx
  have sH := Same.V1 nx ndx v1
  have fr : ∀ {b : Addr}, (upd (upd H dx (.own x)) x (.ins C dx [])) b = none → H b = none := fun h => sc.free h
  exact ⟨⟨dx', s', f, l, wd, b, vs, hp, sH.dp hd, hs', hPL, hf, hl, hw, nx, fr f1, fr f2, fr f3, fr f4⟩, t⟩
section
variable {P : Program} {w : World} {K : PySem.W.Frag} {mg : Str → Option Value} {base : Heap}
theorem bd_prog (T : Tp K w mg) : ∃ ds, Vals [V.non, V.non, V.non] ds ∧ L2.Binds K T.fd_prog ["self", "body", "cells", "locks", "channels"] ds :=
  T.D_prog.binds0 (ps := ["self", "body", "cells", "locks", "channels"]) 2 (List.cons_ne_nil _ _) rfl
    (fun D doc pm an cdv ct us mv h1 h2 => match us, mv, h1, h2 with | [_, _], [_, _, _], _, _ => ⟨_, _, _, _, _, _, rfl, rfl, _, _, _, _, _, _, rfl, rfl, _, _, _, _, _, _, rfl, rfl, rfl⟩)
/-- Program(b, locks=.., channels=.., cells=..) -/
theorem kb_progR (T : Tp K w mg) : KBn K T.fd_prog ["self", "body", "cells", "locks", "channels"] 2 ["locks", "channels", "cells"] (fun us ws => us ++ rot3 ws) (fun vs zs => vs ++ rot3 zs) := by
  obtain ⟨mv, h⟩ := T.D_prog.kbinds0 (ps := ["self", "body", "cells", "locks", "channels"]) 2 ["locks", "channels", "cells"] [] (fun us _ ws => us ++ rot3 ws) (List.cons_ne_nil _ _) (fun q h => by cases h) (fun a _ c => a.append (vals_rot3 c))
    (fun D doc pm an cdv ct us mv ws h1 h2 h3 => match us, ws, mv, h1, h2, h3 with | [_, _], [_, _, _], [], _, _, _ => rfl)
  exact h
/-- Program(b, channels=.., locks=.., cells=..) -/
theorem kb_progS (T : Tp K w mg) : KBn K T.fd_prog ["self", "body", "cells", "locks", "channels"] 2 ["channels", "locks", "cells"] (fun us ws => us ++ swp3 ws) (fun vs zs => vs ++ swp3 zs) := by
  obtain ⟨mv, h⟩ := T.D_prog.kbinds0 (ps := ["self", "body", "cells", "locks", "channels"]) 2 ["channels", "locks", "cells"] [] (fun us _ ws => us ++ swp3 ws) (List.cons_ne_nil _ _) (fun q h => by cases h) (fun a _ c => a.append (vals_swp3 c))
    (fun D doc pm an cdv ct us mv ws h1 h2 h3 => match us, ws, mv, h1, h2, h3 with | [_, _], [_, _, _], [], _, _, _ => rfl)
  exact h
/-- Program(b, channels=.., cells=.., locks=..) -/
theorem kb_progL (T : Tp K w mg) : KBn K T.fd_prog ["self", "body", "cells", "locks", "channels"] 2 ["channels", "cells", "locks"] (fun us ws => us ++ rol3 ws) (fun vs zs => vs ++ rol3 zs) := by
  obtain ⟨mv, h⟩ := T.D_prog.kbinds0 (ps := ["self", "body", "cells", "locks", "channels"]) 2 ["channels", "cells", "locks"] [] (fun us _ ws => us ++ rol3 ws) (List.cons_ne_nil _ _) (fun q h => by cases h) (fun a _ c => a.append (vals_rol3 c))
    (fun D doc pm an cdv ct us mv ws h1 h2 h3 => match us, ws, mv, h1, h2, h3 with | [_, _], [_, _, _], [], _, _, _ => rfl)
  exact h
/-- a program is made of what is drawn: from the reading of the making -/
theorem made_right {cs : List (Str × Int)} {ls : List Str} {hs : List (Str × Int)} {ws : List Str} {rows : List PyData} {m : Nat} {H : Hp} {v : V} {vc vl vw : V} {C CE x dx : Addr} {Q : VK} {E : XK} (N : Nm cs ls hs ws) (hR : Rows (cs.map (·.1)) ls (hs.map (·.1)) [] 0 0 rows m) (h60 : m ≤ 60) (h18 : rows.length ≤ 1000)
    (hd : Dp K H v (.tuple rows)) (hC : ArgD H vc cs) (hL : ArgL H vl ls) (hCh : ArgD H vw hs) (nx : H x = none) (ndx : H dx = none) (q : ∀ H', Same H H' → Pf K H H' x C cs ls hs rows (placesD 22 rows []) → Q .non H') : spProg K 22 C CE [.ref x, v, vc, vl, vw] (upd (upd H dx (.own x)) x (.ins C dx [])) Q E := by
  have sc : Same H (upd (upd H dx (.own x)) x (.ins C dx [])) := ((Same.refl H).own ndx).own nx
  obtain ⟨eN, eP, _⟩ := prog_none N hR h60
  refine ⟨x, dx, v, .tuple rows, vc, vl, vw, cs, ls, hs, rfl, upd_same, sc.dp hd, (hR.good1 (by omega)).mono (by decide), hC.same sc, N.cells.okd, hL.same sc, by have := N.lfew; omega, fun z hz => (Low.of (N.locks z hz)).ok, hCh.same sc, N.lanes.okd, by show (placesD 22 rows []).length ≤ sizeLine; rw [eP]; exact Nat.le_of_lt (small1000 (by omega)), fun H' v1 => ?_⟩
  rw [eN]
  intro O
  exact q H' (Same.V1 nx ndx v1) (Pf.made nx ndx O hd v1 hR.tup)
end
end TP
namespace TP
open PySem PySem.Spec PyProof.Rows L2 HX HB HG HU HH HD HS HV HQ HK HN TL HM HP
/-! ### rows and what leads to them -/
/-- a row of a right form -/
structure Rt (d : PyData) (z : Str) (ks : List Str) (ds : List PyData) : Prop where
  eq : d = .tuple (.str z :: ds)
  ks_ : kindsOf z = some ks
  len : ds.length = ks.length
  bod : ∀ b ∈ bodiesV ks ds, b = .tuple (rowsD b)
def flatP : List (Nat × Nat) → List Int
  | [] => []
  | (j, i) :: t => (j : Int) :: (i : Int) :: flatP t
/-- from a row by bodies and places to a row -/
inductive Lead : PyData → List (Nat × Nat) → PyData → Prop
  | nil {r : PyData} {z : Str} {ks : List Str} {ds : List PyData} : Rt r z ks ds → Lead r [] r
  | cons {r b r' x : PyData} {z : Str} {ks : List Str} {ds : List PyData} {j i : Nat} {t : List (Nat × Nat)} : Rt r z ks ds → (bodiesV ks ds)[j]? = some b → (rowsD b)[i]? = some r' → Lead r' t x → Lead r ((j, i) :: t) x
def At (rows : List PyData) (q : List Int) (x : PyData) : Prop := ∃ (i : Nat) (ps : List (Nat × Nat)) (r : PyData), q = (i : Int) :: flatP ps ∧ rows[i]? = some r ∧ Lead r ps x
theorem flatP_ev : ∀ ps : List (Nat × Nat), ev2 (flatP ps) = ps.map (fun p => (p.1 : Int)) ∧ ev2 ((flatP ps).drop 1) = ps.map fun p => (p.2 : Int)
  | [] => ⟨rfl, rfl⟩
  | [(j, i)] => ⟨rfl, rfl⟩
  | (j, i) :: (j', i') :: t => by
    obtain ⟨h1, h2⟩ := flatP_ev ((j', i') :: t)
    refine ⟨?_, ?_⟩
    · show (j : Int) :: ev2 (flatP ((j', i') :: t)) = _
      rw [h1]
      rfl
    · show (i : Int) :: ev2 ((flatP ((j', i') :: t)).drop 1) = _
      rw [h2]
      rfl
theorem ev2_map {α β : Type} (f : α → β) : ∀ xs : List α, ev2 (xs.map f) = (ev2 xs).map f
  | [] => rfl
  | [x] => rfl
  | x :: y :: r => by
    show f x :: ev2 (r.map f) = f x :: (ev2 r).map f
    rw [ev2_map f r]
theorem flatP_len : ∀ ps : List (Nat × Nat), (flatP ps).length = 2 * ps.length
  | [] => rfl
  | (j, i) :: t => by
    show (flatP t).length + 1 + 1 = 2 * (t.length + 1)
    rw [flatP_len t]
    omega
theorem flatP_inj : ∀ {ps qs : List (Nat × Nat)}, flatP ps = flatP qs → ps = qs
  | [], [], _ => rfl
  | [], (_, _) :: _, h => by cases h
  | (_, _) :: _, [], h => by cases h
  | (j, i) :: t, (j', i') :: t', h => by
    injection h with h1 h2
    injection h2 with h2 h3
    rw [flatP_inj h3, Int.ofNat.inj h1, Int.ofNat.inj h2]
theorem Rt.uni {d : PyData} {z z' : Str} {ks ks' : List Str} {ds ds' : List PyData} (a : Rt d z ks ds) (b : Rt d z' ks' ds') : z = z' ∧ ks = ks' ∧ ds = ds' := by
  have e := a.eq.symm.trans b.eq
  injection e with e
  injection e with e1 e2
  injection e1 with e1
  subst e1 e2
  have := a.ks_.symm.trans b.ks_
  exact ⟨rfl, Option.some.inj this, rfl⟩
theorem Lead.uni {r x y : PyData} {ps : List (Nat × Nat)} (a : Lead r ps x) (b : Lead r ps y) : x = y := by
  induction a with
  | nil _ => cases b; rfl
  | cons R h1 h2 _ ih =>
    cases b with
    | cons R' h1' h2' t' =>
      obtain ⟨_, rfl, rfl⟩ := R.uni R'
      rw [h1] at h1'
      cases h1'
      rw [h2] at h2'
      cases h2'
      exact ih t'
theorem At.uni {rows : List PyData} {q : List Int} {x y : PyData} (a : At rows q x) (b : At rows q y) : x = y := by
  obtain ⟨i, ps, r, rfl, hr, hl⟩ := a
  obtain ⟨i', ps', r', e, hr', hl'⟩ := b
  injection e with e1 e2
  obtain rfl := Int.ofNat.inj e1
  obtain rfl := flatP_inj e2
  rw [hr] at hr'
  cases hr'
  exact hl.uni hl'
theorem rt_of {cs ls hs : List Str} {ps : List (Str × Str)} {d : PyData} (h : isRowD cs ls hs ps d = true) : ∃ z ks ds, Rt d z ks ds := by
  obtain ⟨z, ks, ds, R⟩ := row_ok h
  exact ⟨z, ks, ds, R.eq, R.ks_, R.len, bodies_parts fun q hq hk => part_body (by rw [← hk]; exact R.parts q hq)⟩
theorem mem_flatF {α β : Type} {f : Nat → α → List β} {y : β} : ∀ {xs : List α} {i : Nat}, y ∈ flatF f i xs → ∃ k x, xs[k]? = some x ∧ y ∈ f (i + k) x
  | [], _, h => by cases h
  | x :: xs, i, h => by
    rcases List.mem_append.mp h with h | h
    · exact ⟨0, x, rfl, h⟩
    · obtain ⟨k, u, h1, h2⟩ := mem_flatF h
      exact ⟨k + 1, u, h1, by rw [show i + (k + 1) = i + 1 + k by omega]; exact h2⟩
theorem bodiesD_rt {d : PyData} {z : Str} {ks : List Str} {ds : List PyData} (R : Rt d z ks ds) : bodiesD d = bodiesV ks ds := by
  rw [R.eq]
  simp only [bodiesD, R.ks_]
/-- each told place leads to a row -/
theorem places_at {cs ls hs : List Str} : ∀ (n : Nat) (rows : List PyData) (place : List Int) (ps : List (Str × Str)) (oft : Int), wrongD cs ls hs n rows place ps oft = none → ∀ p ∈ placesD n rows place, ∃ q x, p = place ++ q ∧ At rows q x
  | 0, _, _, _, _, _, _, h => by cases h
  | n + 1, rows, place, ps, oft, hw, p, hp => by
    rw [wrong_succ] at hw
    obtain ⟨k, row, hk, hp⟩ := mem_flatF (show p ∈ flatF _ 0 rows from hp)
    rw [Nat.zero_add] at hp
    obtain ⟨hk1, hk2⟩ := List.getElem?_eq_some_iff.mp hk
    have h1 := firstSome_none hw k hk1
    rw [Nat.zero_add, hk2] at h1
    obtain ⟨hr, _, hb⟩ := rowF_none h1
    obtain ⟨z, ks, ds, R⟩ := rt_of hr
    rcases List.mem_cons.mp hp with rfl | hp
    · exact ⟨[(k : Int)], row, rfl, k, [], row, rfl, hk, .nil R⟩
    · obtain ⟨j, b, hj, hp⟩ := mem_flatF hp
      rw [Nat.zero_add] at hp
      obtain ⟨hj1, hj2⟩ := List.getElem?_eq_some_iff.mp hj
      have h2 := firstSome_none hb j hj1
      rw [Nat.zero_add, hj2] at h2
      obtain ⟨q, x, rfl, i, qs, r, rfl, h3, h4⟩ := places_at n (rowsD b) _ _ _ h2 p hp
      rw [bodiesD_rt R] at hj
      exact ⟨(k : Int) :: flatP ((j, i) :: qs), x, by simp [flatP, List.append_assoc], k, (j, i) :: qs, row, rfl, hk, .cons R hj h3 h4⟩
section
variable {P : Program} {w : World} {K : PySem.W.Frag} {mg : Str → Option Value} {base : Heap}
theorem ok_npl (T : Tp K w mg) : FnOk P w K mg base CX0 1 T.f_npl T.fd_npl ["self", "at"] (spEx T.C_NoPlace "at") := by
  refine T.D_npl.ok sc_npl (fun vs H Q E h => ?_) (fun cdv A outer s H vs Q E hr h => ?_)
  · obtain ⟨a, y, rfl, _⟩ := h
    rfl
  · obtain ⟨a, y, rfl, ha, q⟩ := h
    refine ⟨_, (pss_cons (ps_expr (HY.pe_baseinit T.bs_YardError (by rfl) T.gC_YardError (pa_cons (pv 0) (pa_cons pe_str pa_nil))))
  (pss_one (ps_ost (pv 0) (pv 1)))), ?_⟩
    exact ⟨_, rfl, a, T.C_NoPlace, [.str "no place"], rfl, by decide, T.x_NoPlace, ha, _, rfl, _, rfl, a, T.C_NoPlace, rfl, T.x_NoPlace, T.na_NoPlace_at, .inl ⟨ha, q⟩⟩
/-- what a body's row is in the heap -/
theorem dp_rt {H : Hp} {v : V} {d : PyData} {z : Str} {ks : List Str} {ds : List PyData} (R : Rt d z ks ds) (h : Dp K H v d) : ∃ (a : Addr) (xs : List V), v = .ref a ∧ SqT K H a (.str z :: xs) ∧ DpAll K H xs ds := by
  rw [R.eq] at h
  obtain ⟨a, xs, rfl, hx, hall⟩ := dp_tup h
  obtain ⟨x, ys, rfl, h1, h2⟩ := dpAll_cons hall
  cases h1
  exact ⟨a, ys, rfl, hx, h2⟩
def spRowAt (K : PySem.W.Frag) : Sp := fun vs H Q _ => ∃ (b t : Addr) (rows : List PyData) (q : List Int) (x : PyData), vs = [.ref b, .ref t] ∧ Dp K H (.ref b) (.tuple rows) ∧ SqT K H t (q.map V.int) ∧ At rows q x ∧ q.length ≤ 1000 ∧ ∀ v H', Same H H' → Dp K H' v x → Q v H'
theorem ok_rowat (T : Tp K w mg) : FnOk P w K mg base CX0 2 T.f_rowat T.fd_rowat ["body", "place"] (spRowAt K) := by
  refine T.D_rowat.F.ok sc_rowat (fun vs H Q E h => ?_) (fun cdv A outer s H vs Q E hr h => ?_)
  · obtain ⟨b, t, rows, q, x, rfl, _⟩ := h
    rfl
  · obtain ⟨b, t, rows, q, x, rfl, hb, ht, ⟨i0, ps, r0, rfl, hi0, hL⟩, hq, fin⟩ := h
    refine ⟨_, (pss_cons (ps_set (i := 2) sc_rowat.nd rfl (.inl rfl) (pe_ix ix_tup (pv 0) (pe_ix ix_tup (pv 1) pe_int (fun _ _ => rfl)) (fun _ _ => rfl)))
  (pss_cons (ps_for PassesOwn.never rfl (RZ.pi_zipA (by rfl) T.zip (pa_cons (HP.pe_twoT (pv 1) (po_some pe_int)) (pa_cons (HP.pe_twoT (pv 1) (po_some pe_int)) pa_nil))) (pg_tup rfl (pgs_cons (pg_name (i := 3) sc_rowat.nd rfl (.inl rfl)) (pgs_cons (pg_name (i := 4) sc_rowat.nd rfl (.inl rfl)) pgs_nil)))
  (pss_one (ps_set (i := 2) sc_rowat.nd rfl (.inl rfl) (pe_ix ix_tup (pe_ix ix_list (pcall T.D_bodies (ok_bodies T) hr (by rfl) (pa_cons (pv 2) pa_nil)) (pv 3) (fun _ _ => rfl)) (pv 4) (fun _ _ => rfl)))))
  (pss_one (ps_ret (pv 2))))), ?_⟩
    obtain ⟨b', xs, e, hx, hall⟩ := dp_tup hb
    cases e
    obtain ⟨v0, hv0, hd0⟩ := dp_at hall hi0
    have ht' : SqT K H t (V.int i0 :: (flatP ps).map V.int) := ht
    refine ⟨_, rfl, _, rfl, _, _, _, _, rfl, rfl, ht', atI_nat (j := 0) rfl, _, _, _, _, rfl, rfl, hx, atI_nat (j := i0) hv0, ?_⟩
    obtain ⟨ev1, ev2'⟩ := flatP_ev ps
    refine ⟨_, rfl, 1, rfl, t, _, rfl, ht', fun p1 n1 => ?_⟩
    have s1 := same_upd (o := .tup (ev2 ((V.int i0 :: (flatP ps).map V.int).drop (HT.sIx (V.int i0 :: (flatP ps).map V.int).length 0 (some 1))))) n1
    have e1 : ev2 ((V.int i0 :: (flatP ps).map V.int).drop (HT.sIx (V.int i0 :: (flatP ps).map V.int).length 0 (some 1))) = (ps.map fun p => (p.1 : Int)).map V.int := by
      rw [show HT.sIx (V.int i0 :: (flatP ps).map V.int).length 0 (some 1) = min 1 (V.int i0 :: (flatP ps).map V.int).length from HT.sIx_nat _ 0 1, List.length_cons, show min 1 (((flatP ps).map V.int).length + 1) = 1 by omega]
      show ev2 ((flatP ps).map V.int) = _
      rw [ev2_map, ev1]
    have h1 : (upd H p1 (.tup (ev2 ((V.int i0 :: (flatP ps).map V.int).drop (HT.sIx (V.int i0 :: (flatP ps).map V.int).length 0 (some 1)))))) p1 = some (.tup ((ps.map fun p => (p.1 : Int)).map V.int)) := by rw [upd_same, e1]
    generalize upd H p1 (.tup (ev2 ((V.int i0 :: (flatP ps).map V.int).drop (HT.sIx (V.int i0 :: (flatP ps).map V.int).length 0 (some 1))))) = H1 at s1 h1 ⊢
    refine ⟨_, rfl, 2, rfl, t, _, rfl, s1.sqt ht', fun p2 n2 => ?_⟩
    have s2 := same_upd (o := .tup (ev2 ((V.int i0 :: (flatP ps).map V.int).drop (HT.sIx (V.int i0 :: (flatP ps).map V.int).length 0 (some 2))))) n2
    have e2 : ev2 ((V.int i0 :: (flatP ps).map V.int).drop (HT.sIx (V.int i0 :: (flatP ps).map V.int).length 0 (some 2))) = (ps.map fun p => (p.2 : Int)).map V.int := by
      rw [show HT.sIx (V.int i0 :: (flatP ps).map V.int).length 0 (some 2) = min 2 (V.int i0 :: (flatP ps).map V.int).length from HT.sIx_nat _ 0 2, List.length_cons]
      cases ps with
      | nil => rfl
      | cons p t =>
        rw [show min 2 (((flatP (p :: t)).map V.int).length + 1) = 2 by rw [List.length_map, flatP_len, List.length_cons]; omega]
        show ev2 (((flatP (p :: t)).map V.int).drop 1) = _
        rw [← List.map_drop, ev2_map, ev2']
    have h2 : (upd H1 p2 (.tup (ev2 ((V.int i0 :: (flatP ps).map V.int).drop (HT.sIx (V.int i0 :: (flatP ps).map V.int).length 0 (some 2)))))) p2 = some (.tup ((ps.map fun p => (p.2 : Int)).map V.int)) := by rw [upd_same, e2]
    generalize upd H1 p2 (.tup (ev2 ((V.int i0 :: (flatP ps).map V.int).drop (HT.sIx (V.int i0 :: (flatP ps).map V.int).length 0 (some 2))))) = H2 at s2 h2 ⊢
    have s02 := s1.trans s2
    have h1 := s2 _ _ h1
    have h2' : SqT K H2 p2 ((ps.map fun p => (p.2 : Int)).map V.int) := stt h2
    refine ⟨p1, p2, _, _, rfl, .inr ⟨stt h1, h2', for_it (HE.walk_zipT (xs := (ps.map fun p => (p.1 : Int)).map V.int) (ys := (ps.map fun p => (p.2 : Int)).map V.int) (n := ps.length) (by simp)) (fun k σ H3 => ∃ (y3 y4 : Option V) (v : V) (r : PyData), σ = [some (.ref b), some (.ref t), some v, y3, y4] ∧ Same H2 H3 ∧ Dp K H3 v r ∧ Lead r (ps.drop k) x) ?_ (fun k σ H3 _ g => by obtain ⟨_, _, _, _, _, sm, _, _⟩ := g; exact ⟨stt (sm _ _ h1), sm.sqt h2'⟩) ?_ ?_⟩⟩
    · exact ⟨_, _, v0, r0, rfl, Same.refl H2, s02.dp hd0, hL⟩
    · rintro k x' σ H3 H4 hk ⟨y3, y4, v, r, rfl, sm, hd, hL⟩ ⟨Tt, x1, x2, rfl, nT, rfl, g1, g2⟩
      dsimp only at g1 g2
      obtain ⟨⟨j, i⟩, hji⟩ : ∃ p, ps[k]? = some p := ⟨_, List.getElem?_eq_getElem hk⟩
      simp only [List.getElem?_map, hji, Option.map_some, Option.some.injEq] at g1 g2
      subst g1 g2
      rw [show ps.drop k = (j, i) :: ps.drop (k + 1) by rw [List.drop_eq_getElem_cons hk]; congr 1; exact (List.getElem?_eq_some_iff.mp hji).2] at hL
      cases hL with
      | @cons r bb r' _ z ks ds _ _ _ R hj hi hL' =>
      have smT := same_upd (o := .tup [V.int (j : Int), V.int (i : Int)]) nT
      obtain ⟨ra, rxs, rfl, hrx, hrall⟩ := dp_rt R hd
      refine ⟨Tt, _, rfl, stt upd_same, rfl, _, _, rfl, _, _, rfl, rfl, ?_⟩
      refine ⟨_, rfl, ra, z, ks, rxs, rfl, smT.sqt hrx, R.ks_, fun lp H5 nlp s5 hlp => ?_⟩
      have s35 := smT.trans s5
      obtain ⟨vb, hvb, hdb⟩ := dp_at (dpAll_bodies ks (s35.dpAll hrall)) hj
      have eb := R.bod bb (List.mem_of_getElem? hj)
      rw [eb] at hdb
      obtain ⟨ba, bxs, rfl, hbx, hball⟩ := dp_tup hdb
      obtain ⟨vr, hvr, hdr⟩ := dp_at hball hi
      refine ⟨_, rfl, _, _, _, _, rfl, rfl, sl hlp, atI_nat (j := j) hvb, _, rfl, _, _, _, _, rfl, rfl, hbx, atI_nat (j := i) hvr, ?_⟩
      exact ⟨_, _, vr, r', rfl, sm.trans s35, hdr, hL'⟩
    · rintro σ H3 ⟨y3, y4, v, r, rfl, sm, hd, hL⟩
      rw [List.drop_length] at hL
      cases hL
      exact ⟨_, rfl, fin v H3 (s02.trans sm) hd⟩
end
end TP
namespace TP
open PySem PySem.Spec PyProof.Rows L2 HX HB HG HU HH HD HS HV HQ HK HN TL HM HP
/-! ### Program.places, Program.row -/
theorem eqv_ints : ∀ a b : List Int, PyData.eqvAll (a.map .int) (b.map .int) = decide (a = b)
  | [], [] => rfl
  | [], _ :: _ => rfl
  | _ :: _, [] => rfl
  | x :: a, y :: b => by
    simp only [List.map_cons, PyData.eqvAll, PyData.eqv, eqv_ints a b, List.cons.injEq, Bool.decide_and]
    rfl
theorem shaped_ints (q : List Int) : SeqAt.shaped (.tuple (q.map .int)) = true := by
  show (PyData.canLay0 (.tuple (q.map PyData.int)) && decide (PyData.depth (.tuple (q.map PyData.int)) ≤ 64)) = true
  simp only [PyData.canLay0, PyData.depth, ints_lay q, ints_depth q]
  rfl
abbrev plD (q : List Int) : PyData := .tuple (q.map .int)
theorem lay_spots : ∀ sp : List (List Int), PyData.canLayAll0 (sp.map plD) = true ∧ PyData.depthAll (sp.map plD) ≤ 1
  | [] => ⟨rfl, Nat.zero_le _⟩
  | q :: sp => by
    obtain ⟨h1, h2⟩ := lay_spots sp
    simp only [List.map_cons, PyData.canLayAll0, PyData.canLay0, ints_lay q, h1, PyData.depthAll, PyData.depth, ints_depth q, Bool.and_self]
    exact ⟨trivial, by omega⟩
theorem shaped_spots (sp : List (List Int)) : SeqAt.shaped (.list (sp.map plD)) = true := by
  obtain ⟨h1, h2⟩ := lay_spots sp
  show (PyData.canLay0 (.list (sp.map plD)) && decide (PyData.depth (.list (sp.map plD)) ≤ 64)) = true
  simp only [PyData.canLay0, PyData.depth, h1, Bool.true_and]
  exact decide_eq_true (by omega)
theorem any_spots (sp : List (List Int)) (q : List Int) : ((sp.map plD).any fun z => PyData.eqv z (plD q)) = decide (q ∈ sp) := by
  induction sp with
  | nil => rfl
  | cons a sp ih =>
    rw [List.map_cons, List.any_cons, ih]
    simp only [plD, PyData.eqv, eqv_ints, List.mem_cons, Bool.decide_or]
    congr 1
    exact decide_eq_decide.mpr ⟨fun e => e.symm, fun e => e.symm⟩
theorem all_nums : ∀ {ds : List PyData}, ((ds.map isNumD).all id) = true → ∃ q : List Int, ds = q.map .int
  | [], _ => ⟨[], rfl⟩
  | d :: ds, h => by
    simp only [List.map_cons, List.all_cons, Bool.and_eq_true, id] at h
    obtain ⟨q, rfl⟩ := all_nums h.2
    cases d with
    | int i => exact ⟨i :: q, rfl⟩
    | _ => cases h.1
theorem nums_all : ∀ q : List Int, (((q.map PyData.int).map isNumD).all id) = true
  | [] => rfl
  | _ :: q => nums_all q
theorem dpAll_places {K : PySem.W.Frag} {H : Hp} {vs : List V} {sp : List (List Int)} (h : PL K H vs sp) : DpAll K H vs (sp.map plD) := by
  unfold PL at h
  induction h with
  | nil => exact .nil
  | @cons p q ps qs hq t ih =>
    obtain ⟨a, rfl, ha⟩ := hq
    exact .cons (.tup ha (dp_ints q)) ih
structure OkX (d : PyData) : Prop where
  tup : ∀ ds, d = .tuple ds → tupAll ds = true ∧ okAll ds = true ∧ ds.length ≤ 1000
theorem plD_inj {a b : List Int} (h : plD a = plD b) : a = b := by
  injection h with h
  exact (List.map_inj_right fun _ _ e => PyData.int.inj e).mp h
section
variable {P : Program} {w : World} {K : PySem.W.Frag} {mg : Str → Option Value} {base : Heap}
def spPls (K : PySem.W.Frag) (C : Addr) : Sp := fun vs H Q _ => ∃ (H0 : Hp) (p : Addr) (cs : List (Str × Int)) (ls : List Str) (hs : List (Str × Int)) (rows : List PyData) (spots : List (List Int)), vs = [.ref p] ∧ Pf K H0 H p C cs ls hs rows spots ∧
  ∀ (l : Addr) (H' : Hp) (us : List V), Same H H' → H l = none → H' l = some (.lst us) → PL K H' us spots → Q (.ref l) H'
theorem ok_pplaces (T : Tp K w mg) : FnOk P w K mg base CX0 1 T.f_pplaces T.fd_pplaces ["self"] (spPls K T.C_Program) := by
  refine T.D_pplaces.ok sc_pplaces (fun vs H Q E h => ?_) (fun cdv A outer s H vs Q E hr h => ?_)
  · obtain ⟨H0, p, cs, ls, hs, rows, spots, rfl, _⟩ := h
    rfl
  · obtain ⟨H0, p, cs, ls, hs, rows, spots, rfl, G, q⟩ := h
    obtain ⟨dx, s, f, l, wd, b, us, hp, hb, hs', hPL, hf, hl, hw, _⟩ := G.ex
    refine ⟨_, (pss_one (ps_ret (pe_callTy call_list_of (by rfl) T.list (by decide +kernel) (pa_cons (pe_fld (pv 0) rfl) pa_nil)))), ?_⟩
    refine ⟨_, rfl, p, T.C_Program, dx, _, .ref s, rfl, hp, T.cl_Program, T.na_Program_spots, rfl, s, us, rfl, .inl (sl hs'), fun t nt => ?_⟩
    have st := same_upd (o := .lst us) nt
    exact q t _ us st nt upd_same (hPL.same st)
def spPrw (K : PySem.W.Frag) (C CE : Addr) : Sp := fun vs H Q E => ∃ (H0 : Hp) (p : Addr) (cs : List (Str × Int)) (ls : List Str) (hs : List (Str × Int)) (rows : List PyData) (spots : List (List Int)) (v : V) (d : PyData) (A : Addr → Prop), vs = [.ref p, v] ∧ Pf K H0 H p C cs ls hs rows spots ∧
  (∀ q ∈ spots, q.length ≤ 1000 ∧ ∃ x, At rows q x) ∧ Dx K A H v d ∧ OkX d ∧
  (∀ q x, d = plD q → q ∈ spots → At rows q x → ∀ v' H', Same H H' → Dp K H' v' x → Q v' H') ∧
  ((∀ q ∈ spots, d ≠ plD q) → ∀ (dd : Addr) (H1 : Hp), Same H H1 → H1 dd = none → E (.ref CE) (some dd) (upd H1 dd (.xd [("at", v)])))
theorem ok_prow (T : Tp K w mg) : FnOk P w K mg base (L2.CX P w) 4 T.f_prow T.fd_prow ["self", "place"] (spPrw K T.C_Program T.C_NoPlace) := by
  refine T.D_prow.okX sc_prow (fun vs H Q E h => ?_) (fun cdv A outer s H vs Q E hr h => ?_)
  · obtain ⟨H0, p, cs, ls, hs, rows, spots, v, d, AA, rfl, _⟩ := h
    rfl
  · obtain ⟨H0, p, cs, ls, hs, rows, spots, v, d, AA, rfl, G, hat, hd, okx, qr, qe⟩ := h
    obtain ⟨dx, s, f, l, wd, b, us, hp, hb, hs', hPL, hf, hl, hw, _⟩ := G.ex
    refine ⟨_, (pss_cons (ps_if (PW.pt (pw_or (pt_not (pt_val (pe_callB call_isi (by rfl) T.isinstance (by decide +kernel) (pa_cons (pv 1) (pa_cons (pe_bltn (v := .ty "tuple") (by rfl) T.tuple (by decide +kernel) rfl) pa_nil))))) (pw_or (pt_not (pt_val (pe_callB (cr_all rfl) (by rfl) T.all (by decide +kernel) (pa_cons (pe_lc (own := [("one", 2)]) (g := gName 2) (by rfl) sc_prow.nd (pi_tup (pv 1)) (blkOk_by (own := [("one", 2)]) (N := ["self", "place", "one"]) (sc := defScope s_prow) (by decide +kernel)) (fun _ _ _ _ _ => (pg_name (i := 2) sc_prow.nd rfl (.inl rfl))) (fun _ _ _ _ _ => pts_nil) (fun _ _ _ _ _ => (pcall T.D_isnum (ok_isnum T) (hr.mono (by omega)) (by rfl) (pa_cons (pv 2) pa_nil)))) pa_nil)))) (pw_or1 (pt_cmpR (op_notInD (HA.u65 hr)) (pv 1) (pe_fld (pv 0) rfl) (by rfl))))))
  (pss_one (ps_raise rfl (takes_of rfl rfl rfl rfl) (pmk_oex T.x_NoPlace T.i_NoPlace T.ti_NoPlace (ok_npl T) (hr.mono (by omega)) T.b_npl .nil pass0 (by rfl) T.gC_NoPlace (pa_cons (pv 1) pa_nil))))
  pss_nil)
  (pss_one (ps_ret (pcall T.D_rowat (ok_rowat T) (hr.mono (by omega)) (by rfl) (pa_cons (pe_fld (pv 0) rfl) (pa_cons (pv 1) pa_nil)))))), ?_⟩
    obtain ⟨ty, kin⟩ := dx_ty hd
    refine ⟨_, rfl, _, _, _, _, _, rfl, .ty "tuple", ty, kit_x (by decide) kin, _, rfl, ?_⟩
    by_cases ht : kindX d = "tuple"
    · refine ite0 (by rw [decide_eq_true ht]; rfl) ?_
      obtain ⟨ds, rfl⟩ : ∃ ds, d = .tuple ds := by cases d <;> first | exact ⟨_, rfl⟩ | (simp [kindX, kindD] at ht)
      obtain ⟨t1, t2, t3⟩ := okx.tup ds rfl
      obtain ⟨a, xs, rfl, hx, hall⟩ := dp_tup (hd.dp t1)
      have hlen := dpAll_len hall
      refine ⟨_, rfl, a, rfl, ⟨_, hx⟩, fun L nL => lc_it (walk_tup (xs := xs)) (fun i H2 => Same H H2 ∧ H2 L = some (.lst (((ds.take i).map isNumD).map V.bl))) ⟨same_upd nL, upd_same⟩ (fun i H2 _ g => g.1.sqt hx) ?_ ?_⟩
      · rintro i x H2 H3 hi ⟨sm, hL⟩ ⟨rfl, gx⟩
        have hi2 : i < ds.length := by omega
        obtain ⟨x', e1, e2⟩ := dp_at hall (List.getElem?_eq_getElem hi2)
        rw [gx] at e1
        cases e1
        refine ⟨rfl, _, rfl, x, ds[i], rfl, sm.dp e2, okAll_mem t2 _ (List.getElem_mem hi2), fun H5 s5 => ?_⟩
        refine ⟨_, s5 _ _ hL, ?_, (sm.trans s5).own nL, ?_⟩
        · rw [List.length_map, List.length_map]
          exact small1000 (Nat.le_trans (List.length_take_le _ _) (by omega))
        · rw [upd_same, List.take_add_one, List.getElem?_eq_getElem hi2, List.map_append, List.map_append]
          rfl
      · rintro H2 ⟨sm, hL⟩
        rw [hlen, List.take_length] at hL
        refine ⟨L, _, rfl, sl hL, _, rfl, ?_⟩
        cases hn : (ds.map isNumD).all id with
        | false =>
          refine ite1 rfl ⟨_, rfl, mkO_of fun dd nd => ?_⟩
          refine qe (fun q hq e => ?_) dd H2 sm nd
          injection e with e
          rw [e, nums_all] at hn
          cases hn
        | true =>
          refine ite0 rfl ?_
          obtain ⟨q, rfl⟩ := all_nums hn
          refine ⟨_, rfl, _, rfl, p, T.C_Program, dx, _, .ref s, rfl, sm _ _ hp, T.cl_Program, T.na_Program_spots, rfl, plD q, spots.map plD, sm.dp (hd.dp t1), .lst (sl (sm _ _ hs')) (dpAll_places (hPL.same sm)), shaped_ints q, shaped_spots spots, _, rfl, ?_⟩
          rw [any_spots]
          by_cases hq : q ∈ spots
          · refine ite0 (by rw [decide_eq_true hq]; rfl) ?_
            obtain ⟨l1, x, hx'⟩ := hat q hq
            have hdb := sm.dp hb
            obtain ⟨bb, bxs, rfl, hbx, hball⟩ := dp_tup hdb
            obtain ⟨aa, axs, e, hax, haall⟩ := dp_tup (sm.dp (hd.dp t1))
            cases e
            obtain rfl := dp_ints_inv haall
            refine ⟨_, rfl, p, T.C_Program, dx, _, .ref bb, rfl, sm _ _ hp, T.cl_Program, T.na_Program_tree, rfl, _, rfl, bb, a, rows, q, x, rfl, hdb, hax, hx', l1, fun v' H' s' hv' => ?_⟩
            exact qr q x rfl hq hx' v' H' (sm.trans s') hv'
          · refine ite1 (by rw [decide_eq_false hq]; rfl) ⟨_, rfl, mkO_of fun dd nd => ?_⟩
            exact qe (fun q' hq' e => hq (by rw [plD_inj e]; exact hq')) dd H2 sm nd
    · refine ite1 (by rw [decide_eq_false ht]; rfl) ⟨_, rfl, mkO_of fun dd nd => ?_⟩
      exact qe (fun q hq e => ht (by rw [e]; rfl)) dd H (Same.refl H) nd
end
end TP
namespace TP
open PySem PySem.Spec PyProof.Rows L2 HX HB HG HU HH HD HS HV HQ HK HN TL HM HP HR HO HC HF
/-! ### what a program tells of itself -/
section
variable {P : Program} {w : World} {K : PySem.W.Frag} {mg : Str → Option Value} {base : Heap}
def spPbody (K : PySem.W.Frag) (C : Addr) : Sp := fun vs H Q _ => ∃ (H0 : Hp) (p : Addr) (cs : List (Str × Int)) (ls : List Str) (hs : List (Str × Int)) (rows : List PyData) (spots : List (List Int)), vs = [.ref p] ∧ Pf K H0 H p C cs ls hs rows spots ∧ ∀ v, Dp K H v (.tuple rows) → Q v H
theorem ok_pbody (T : Tp K w mg) : FnOk P w K mg base CX0 1 T.f_pbody T.fd_pbody ["self"] (spPbody K T.C_Program) := by
  refine T.D_pbody.ok sc_pbody (fun vs H Q E h => ?_) (fun cdv A outer s H vs Q E hr h => ?_)
  · obtain ⟨H0, p, cs, ls, hs, rows, spots, rfl, _⟩ := h
    rfl
  · obtain ⟨H0, p, cs, ls, hs, rows, spots, rfl, G, q⟩ := h
    obtain ⟨dx, s, f, l, wd, b, us, hp, hb, hs', hPL, hf, hl, hw, _⟩ := G.ex
    refine ⟨_, (pss_one (ps_ret (pe_fld (pv 0) rfl))), ?_⟩
    exact ⟨_, rfl, p, T.C_Program, dx, _, b, rfl, hp, T.cl_Program, T.na_Program_tree, rfl, q b hb⟩
def spPcells (K : PySem.W.Frag) (C : Addr) : Sp := fun vs H Q _ => ∃ (H0 : Hp) (p : Addr) (cs : List (Str × Int)) (ls : List Str) (hs : List (Str × Int)) (rows : List PyData) (spots : List (List Int)), vs = [.ref p] ∧ Pf K H0 H p C cs ls hs rows spots ∧ ∀ D, H D = none → Q (.ref D) (upd H D (.dK (dI cs)))
theorem ok_pcells (T : Tp K w mg) : FnOk P w K mg base CX0 1 T.f_pcells T.fd_pcells ["self"] (spPcells K T.C_Program) := by
  refine T.D_pcells.ok sc_pcells (fun vs H Q E h => ?_) (fun cdv A outer s H vs Q E hr h => ?_)
  · obtain ⟨H0, p, cs, ls, hs, rows, spots, rfl, _⟩ := h
    rfl
  · obtain ⟨H0, p, cs, ls, hs, rows, spots, rfl, G, q⟩ := h
    obtain ⟨dx, s, f, l, wd, b, us, hp, hb, hs', hPL, hf, hl, hw, _⟩ := G.ex
    refine ⟨_, (pss_one (ps_ret (pe_callTy call_dictC (by rfl) T.dict (by decide +kernel) (pa_cons (pe_fld (pv 0) rfl) pa_nil)))), ?_⟩
    exact ⟨_, rfl, p, T.C_Program, dx, _, .ref f, rfl, hp, T.cl_Program, T.na_Program_first, rfl, f, _, rfl, .inl hf, q⟩
def spPchans (K : PySem.W.Frag) (C : Addr) : Sp := fun vs H Q _ => ∃ (H0 : Hp) (p : Addr) (cs : List (Str × Int)) (ls : List Str) (hs : List (Str × Int)) (rows : List PyData) (spots : List (List Int)), vs = [.ref p] ∧ Pf K H0 H p C cs ls hs rows spots ∧ ∀ D, H D = none → Q (.ref D) (upd H D (.dK (dI hs)))
theorem ok_pchans (T : Tp K w mg) : FnOk P w K mg base CX0 1 T.f_pchans T.fd_pchans ["self"] (spPchans K T.C_Program) := by
  refine T.D_pchans.ok sc_pchans (fun vs H Q E h => ?_) (fun cdv A outer s H vs Q E hr h => ?_)
  · obtain ⟨H0, p, cs, ls, hs, rows, spots, rfl, _⟩ := h
    rfl
  · obtain ⟨H0, p, cs, ls, hs, rows, spots, rfl, G, q⟩ := h
    obtain ⟨dx, s, f, l, wd, b, us, hp, hb, hs', hPL, hf, hl, hw, _⟩ := G.ex
    refine ⟨_, (pss_one (ps_ret (pe_callTy call_dictC (by rfl) T.dict (by decide +kernel) (pa_cons (pe_fld (pv 0) rfl) pa_nil)))), ?_⟩
    exact ⟨_, rfl, p, T.C_Program, dx, _, .ref wd, rfl, hp, T.cl_Program, T.na_Program_widths, rfl, wd, _, rfl, .inl hw, q⟩
def spPlocks (K : PySem.W.Frag) (C : Addr) : Sp := fun vs H Q _ => ∃ (H0 : Hp) (p : Addr) (cs : List (Str × Int)) (ls : List Str) (hs : List (Str × Int)) (rows : List PyData) (spots : List (List Int)), vs = [.ref p] ∧ Pf K H0 H p C cs ls hs rows spots ∧ ∀ D, H D = none → Q (.ref D) (upd H D (.lst (ls.map V.str)))
theorem ok_plocks (T : Tp K w mg) : FnOk P w K mg base CX0 1 T.f_plocks T.fd_plocks ["self"] (spPlocks K T.C_Program) := by
  refine T.D_plocks.ok sc_plocks (fun vs H Q E h => ?_) (fun cdv A outer s H vs Q E hr h => ?_)
  · obtain ⟨H0, p, cs, ls, hs, rows, spots, rfl, _⟩ := h
    rfl
  · obtain ⟨H0, p, cs, ls, hs, rows, spots, rfl, G, q⟩ := h
    obtain ⟨dx, s, f, l, wd, b, us, hp, hb, hs', hPL, hf, hl, hw, _⟩ := G.ex
    refine ⟨_, (pss_one (ps_ret (pe_callTy call_list_of (by rfl) T.list (by decide +kernel) (pa_cons (pe_fld (pv 0) rfl) pa_nil)))), ?_⟩
    exact ⟨_, rfl, p, T.C_Program, dx, _, .ref l, rfl, hp, T.cl_Program, T.na_Program_bolts, rfl, l, _, rfl, .inl (sl hl), q⟩
def spPlen (K : PySem.W.Frag) (C : Addr) : Sp := fun vs H Q _ => ∃ (H0 : Hp) (p : Addr) (cs : List (Str × Int)) (ls : List Str) (hs : List (Str × Int)) (rows : List PyData) (spots : List (List Int)), vs = [.ref p] ∧ Pf K H0 H p C cs ls hs rows spots ∧ Q (.int (spots.length : Nat)) H
theorem ok_plen (T : Tp K w mg) : FnOk P w K mg base CX0 1 T.f_plen T.fd_plen ["self"] (spPlen K T.C_Program) := by
  refine T.D_plen.ok sc_plen (fun vs H Q E h => ?_) (fun cdv A outer s H vs Q E hr h => ?_)
  · obtain ⟨H0, p, cs, ls, hs, rows, spots, rfl, _⟩ := h
    rfl
  · obtain ⟨H0, p, cs, ls, hs, rows, spots, rfl, G, q⟩ := h
    obtain ⟨dx, s, f, l, wd, b, us, hp, hb, hs', hPL, hf, hl, hw, _⟩ := G.ex
    refine ⟨_, (pss_one (ps_ret (pe_callB call_len_seq (by rfl) T.len PySem.boot_len (pa_cons (pe_fld (pv 0) rfl) pa_nil)))), ?_⟩
    have e : us.length = spots.length := Paired.length hPL
    refine ⟨_, rfl, p, T.C_Program, dx, _, .ref s, rfl, hp, T.cl_Program, T.na_Program_spots, rfl, s, _, rfl, .inl (sl hs'), ?_⟩
    rw [e]
    exact q
end
end TP
namespace TP
open PySem PySem.Spec PyProof.Rows L2 HX HB HG HU HH HD HS HV HQ HK HN TL HM HP HR HO HC HF
/-! ### alike data -/
mutual
theorem eqv_refl : ∀ {d : PyData}, tupD d = true → PyData.eqv d d = true
  | .none, _ => rfl
  | .bool b, _ => by show (b == b) = true; simp
  | .int i, _ => by show (i == i) = true; simp
  | .str z, _ => by show (z == z) = true; simp
  | .tuple xs, h => eqvAll_refl (xs := xs) h
  | .list xs, h => by cases h
  | .dict xs, h => by cases h
theorem eqvAll_refl : ∀ {xs : List PyData}, tupAll xs = true → PyData.eqvAll xs xs = true
  | [], _ => rfl
  | x :: xs, h => by
    simp only [tupAll, Bool.and_eq_true] at h
    show (PyData.eqv x x && PyData.eqvAll xs xs) = true
    rw [eqv_refl h.1, eqvAll_refl h.2]
    rfl
end
theorem eqv_strs : ∀ xs ys : List Str, PyData.eqvAll (xs.map .str) (ys.map .str) = decide (xs = ys)
  | [], [] => rfl
  | [], _ :: _ => rfl
  | _ :: _, [] => rfl
  | x :: xs, y :: ys => by
    have h : PyData.eqvAll ((x :: xs).map .str) ((y :: ys).map .str) = (PyData.eqv (.str x) (.str y) && PyData.eqvAll (xs.map .str) (ys.map .str)) := rfl
    rw [h, eqv_strs xs ys]
    have : PyData.eqv (.str x) (.str y) = decide (x = y) := by
      show (x == y) = _
      by_cases e : x = y
      · rw [e, beq_self_eq_true, decide_eq_true rfl]
      · rw [decide_eq_false e]; exact beq_eq_false_iff_ne.mpr e
    rw [this, ← Bool.decide_and]
    exact decide_eq_decide.mpr ⟨fun h => by rw [h.1, h.2], fun h => List.cons.inj h⟩
theorem tup_spots : ∀ sp : List (List Int), tupAll (sp.map plD) = true
  | [] => rfl
  | q :: sp => by
    show (tupAll (q.map .int) && tupAll (sp.map plD)) = true
    rw [tup_ints, tup_spots sp]
    rfl
theorem zs_dp {K : PySem.W.Frag} {H : Hp} : ∀ zs : List Str, DpAll K H (zs.map V.str) (zs.map .str)
  | [] => .nil
  | z :: zs => .cons (.str z) (zs_dp zs)
theorem paired_at {α β : Type} {F : α → β → Prop} : ∀ {l : List α} {m : List β}, Paired F l m → ∀ {i : Nat} {x : α}, l[i]? = some x → ∃ y, m[i]? = some y ∧ F x y
  | _, _, .cons h _, 0, _, e => ⟨_, rfl, by cases e; exact h⟩
  | _, _, .cons _ t, i + 1, _, e => paired_at t (by simpa using e)
  | _, _, .nil, i, _, e => by simp at e
theorem places_len_le : ∀ (n : Nat) (rows : List PyData) (place p : List Int), p ∈ placesD n rows place → p.length ≤ place.length + 2 * n
  | 0, _, _, _, h => by cases h
  | n + 1, rows, place, p, h => by
    obtain ⟨k, row, hk, hp⟩ := mem_flatF (show p ∈ flatF _ 0 rows from h)
    rcases List.mem_cons.mp hp with rfl | hp
    · rw [List.length_append, List.length_singleton]; omega
    · obtain ⟨j, b, hj, hp⟩ := mem_flatF hp
      have := places_len_le n _ _ p hp
      simp only [List.length_append, List.length_singleton] at this
      omega
theorem okAll_ints : ∀ q : List Int, okAll (q.map .int) = true
  | [] => rfl
  | i :: q => by
    show (okD (.int i) && okAll (q.map .int)) = true
    rw [okAll_ints q]
    rfl
/-- a dict that tells where cells, locks and channels are -/
structure Head (H : Hp) (pl C L Ch : Addr) (cs : List (Str × Int)) (ls : List Str) (hs : List (Str × Int)) : Prop where
  c : ∀ H', Same H H' → DGet H' pl (.str "cells") (some (.ref C))
  l : ∀ H', Same H H' → DGet H' pl (.str "locks") (some (.ref L))
  h : ∀ H', Same H H' → DGet H' pl (.str "channels") (some (.ref Ch))
  hC : H C = some (.dK (dI cs))
  hL : H L = some (.lst (ls.map V.str))
  hCh : H Ch = some (.dK (dI hs))
/-! ### names by membership alone -/
section
variable {cs cs' ls ls' hs hs' : List Str}
theorem part_cong (h1 : ∀ z, z ∈ cs ↔ z ∈ cs') (h2 : ∀ z, z ∈ ls ↔ z ∈ ls') (h3 : ∀ z, z ∈ hs ↔ z ∈ hs') : isPartD cs ls hs = isPartD cs' ls' hs' := by
  funext ps kind d
  have e : ∀ z, namePart kind z cs ls hs ps = namePart kind z cs' ls' hs' ps := fun z => by
    unfold namePart
    rw [decide_eq_decide.mpr (h1 z), decide_eq_decide.mpr (h2 z), decide_eq_decide.mpr (h3 z)]
  unfold isPartD
  simp only [e]
theorem row_cong (h1 : ∀ z, z ∈ cs ↔ z ∈ cs') (h2 : ∀ z, z ∈ ls ↔ z ∈ ls') (h3 : ∀ z, z ∈ hs ↔ z ∈ hs') : isRowD cs ls hs = isRowD cs' ls' hs' := by
  funext ps d
  unfold isRowD
  simp only [part_cong h1 h2 h3]
theorem wrong_cong (h1 : ∀ z, z ∈ cs ↔ z ∈ cs') (h2 : ∀ z, z ∈ ls ↔ z ∈ ls') (h3 : ∀ z, z ∈ hs ↔ z ∈ hs') : ∀ n, wrongD cs ls hs n = wrongD cs' ls' hs' n
  | 0 => rfl
  | n + 1 => by
    funext rows place ps oft
    simp only [wrongD, row_cong h1 h2 h3, wrong_cong h1 h2 h3 n]
end
/-! ### right rows -/
structure Rt2 (cn ls hn : List Str) (rows : List PyData) : Prop where
  w : wrongD cn ls hn 22 rows [] [] 0 = none
  c : cntD 22 rows ≤ 60
  g : Good (.tuple rows) 22
  t : tupAll rows = true
theorem Rt2.of {cn ls hn : List Str} {rows : List PyData} {m : Nat} (h : Rows cn ls hn [] 0 0 rows m) (h60 : m ≤ 60) (l : rows.length ≤ 1000) : Rt2 cn ls hn rows :=
  ⟨h.right 21 [] (by decide) rfl, by rw [h.cnt 21 (by decide)]; exact h60, (h.good1 (by omega)).mono (by decide), h.tup⟩
theorem Rt2.cong {cn cn' ls ls' hn hn' : List Str} {rows : List PyData} (h : Rt2 cn ls hn rows) (h1 : ∀ z, z ∈ cn ↔ z ∈ cn') (h2 : ∀ z, z ∈ ls ↔ z ∈ ls') (h3 : ∀ z, z ∈ hn ↔ z ∈ hn') : Rt2 cn' ls' hn' rows :=
  ⟨by rw [← wrong_cong h1 h2 h3]; exact h.w, h.c, h.g, h.t⟩
theorem firstSome_pre {α β : Type} {f : Nat → α → Option β} : ∀ {xs ys : List α} {i : Nat}, firstSome f i (xs ++ ys) = none → firstSome f i xs = none
  | [], _, _, _ => rfl
  | x :: xs, ys, i, h => by
    simp only [List.cons_append, firstSome] at h ⊢
    cases e : f i x with
    | some b => rw [e] at h; cases h
    | none => rw [e] at h; exact firstSome_pre h
theorem Rt2.pre {cn ls hn : List Str} {xs ys : List PyData} (h : Rt2 cn ls hn (xs ++ ys)) : Rt2 cn ls hn xs := by
  refine ⟨?_, ?_, ?_, ?_⟩
  · have := h.w
    rw [wrong_succ] at this ⊢
    exact firstSome_pre this
  · have := h.c
    rw [cnt_app] at this
    omega
  · have l : (xs ++ ys).length ≤ 10000 := by
      have := h.g.ok
      simp only [okD, Bool.and_eq_true, decide_eq_true_eq] at this
      exact this.1
    rw [List.length_append] at l
    exact Good.tup (n := 21) (fun x hx => h.g.item (List.mem_append_left _ hx)) (by omega)
  · have := h.t
    have aux : ∀ (xs ys : List PyData), tupAll (xs ++ ys) = true → tupAll xs = true := by
      intro xs
      induction xs with
      | nil => intro _ _; rfl
      | cons x xs ih =>
        intro ys h
        have h : (tupD x && tupAll (xs ++ ys)) = true := h
        rw [Bool.and_eq_true] at h
        show (tupD x && tupAll xs) = true
        rw [h.1, ih ys h.2]
        rfl
    exact aux xs ys this
abbrev putRow : PyData := .tuple [.str "put", .str "a", .int 0]
theorem Rt2.put {cn ls hn : List Str} : Rt2 cn ls hn [putRow] := by
  refine ⟨?_, by decide +kernel, ⟨by decide +kernel, by decide +kernel, by decide +kernel⟩, by decide +kernel⟩
  rw [wrong_one]
  have hk : kindsOf "put" = some (["name", "calc"] : List Str) := by decide +kernel
  have h1 : isPartD cn ls hn [] "name" (.str "a") = true := by
    unfold isPartD
    rw [if_neg (by decide +kernel), if_neg (by decide +kernel), show rangeOf "name" = none by decide +kernel]
    show (isNameL "a" && namePart "name" "a" cn ls hn []) = true
    unfold namePart
    rw [if_neg (by decide +kernel), if_neg (by decide +kernel), if_neg (by decide +kernel), if_neg (by decide +kernel), show isNameL "a" = true by decide +kernel, show decide (("name" : Str) = "name") = true by decide +kernel]
    rfl
  have h2 : isPartD cn ls hn [] "calc" (.int 0) = true := by
    unfold isPartD
    rw [if_pos rfl]
    rfl
  have hr : isRowD cn ls hn [] putRow = true := by
    simp only [isRowD, hk, List.zip_cons_cons, List.zip_nil_right, List.all_cons, List.all_nil, h1, h2, List.length_cons, List.length_nil]
    rfl
  unfold rowF
  rw [if_neg (by rw [hr]; simp), if_neg (by decide +kernel)]
  have : bodiesD putRow = [] := by decide +kernel
  rw [this]
  rfl
/-! ### dicts alike and not -/
theorem look_dI : ∀ {cs : List (Str × Int)} {q : Str × Int}, (cs.map (·.1)).Nodup → q ∈ cs → valV (dI cs) (Sum.inr q.1 : Key) = some (.int q.2)
  | p :: cs, q, nd, h => by
    rw [List.map_cons, List.nodup_cons] at nd
    show ((List.find? (fun kv => decide (kv.1 = Sum.inr q.1)) ((Sum.inr p.1, V.int p.2) :: dI cs)).map (·.2)) = _
    by_cases e : p.1 = q.1
    · rw [List.find?_cons_of_pos (by simp [e])]
      rcases List.mem_cons.mp h with rfl | h
      · rfl
      · exact absurd (e ▸ List.mem_map_of_mem h) nd.1
    · rw [List.find?_cons_of_neg (by simp [e])]
      rcases List.mem_cons.mp h with rfl | h
      · exact absurd rfl e
      · exact look_dI nd.2 h
theorem dictEq_same {as bs : List (Str × Int)} (nd : (bs.map (·.1)).Nodup) (l : as.length = bs.length) (h : ∀ q ∈ as, q ∈ bs) : dictEq (dI as) (dI bs) = true := by
  unfold dictEq
  have e : (dI as).length = (dI bs).length := by unfold dI; rw [List.length_map, List.length_map, l]
  rw [e, beq_self_eq_true, Bool.true_and, List.all_eq_true]
  intro p hp
  unfold dI at hp
  obtain ⟨q, hq, rfl⟩ := List.mem_map.mp hp
  dsimp only
  rw [look_dI nd (h q hq)]
  show (q.2 == q.2) = true
  simp
theorem dictEq_other {as bs : List (Str × Int)} (nd : (bs.map (·.1)).Nodup) {q q' : Str × Int} (h1 : q ∈ as) (h2 : q' ∈ bs) (e : q.1 = q'.1) (n : q.2 ≠ q'.2) : dictEq (dI as) (dI bs) = false := by
  unfold dictEq
  rw [Bool.and_eq_false_iff]
  right
  rw [List.all_eq_false]
  refine ⟨(Sum.inr q.1, V.int q.2), by unfold dI; exact List.mem_map.mpr ⟨q, h1, rfl⟩, ?_⟩
  dsimp only
  rw [e, look_dI nd h2]
  show ¬ (q.2 == q'.2) = true
  simp [n]
theorem eqvAll_len : ∀ {xs ys : List PyData}, PyData.eqvAll xs ys = true → xs.length = ys.length
  | [], [], _ => rfl
  | [], _ :: _, h => by cases h
  | _ :: _, [], h => by cases h
  | x :: xs, y :: ys, h => by
    have h : (PyData.eqv x y && PyData.eqvAll xs ys) = true := h
    rw [Bool.and_eq_true] at h
    rw [List.length_cons, List.length_cons, eqvAll_len h.2]
theorem rev_eq {zs : List Str} (nd : zs.Nodup) : decide (zs = zs.reverse) = decide (zs.length < 2) := by
  refine decide_eq_decide.mpr ⟨fun e => ?_, fun h => ?_⟩
  · match zs, nd, e with
    | [], _, _ => decide
    | [a], _, _ => simp
    | a :: b :: t, nd, e =>
      exfalso
      have h1 : (a :: b :: t).getLast (by simp) = a := by
        have : ((a :: b :: t).reverse).head (by simp) = a := by
          have e2 := e
          simp only [← e2]
          rfl
        rw [List.head_reverse] at this
        exact this
      have h2 : a ∈ b :: t := by
        rw [List.getLast_cons (by simp)] at h1
        rw [← h1]
        exact List.getLast_mem _
      exact (List.nodup_cons.mp nd).1 h2
  · match zs, h with
    | [], _ => rfl
    | [a], _ => rfl
theorem nodup_rev {α : Type} {l : List α} (h : l.Nodup) : l.reverse.Nodup := List.pairwise_reverse.mpr (List.Pairwise.imp (fun h e => h e.symm) h)
theorem Sz.rev {cs : List (Str × Int)} {l u : Int} (h : Sz cs l u) : Sz cs.reverse l u :=
  ⟨fun q hq => h.names q (List.mem_reverse.mp hq), by rw [List.map_reverse]; exact nodup_rev h.nd, by rw [List.length_reverse]; exact h.few, fun q hq => h.rng q (List.mem_reverse.mp hq)⟩
/-- a number changed -/
def chg (cs : List (Str × Int)) (z : Str) (v : Int) : List (Str × Int) := cs.map fun q => if q.1 = z then (q.1, v) else q
theorem chg_fst {cs : List (Str × Int)} {z : Str} {v : Int} : (chg cs z v).map (·.1) = cs.map (·.1) := by
  unfold chg
  rw [List.map_map]
  refine List.map_congr_left fun q _ => ?_
  show (if q.1 = z then (q.1, v) else q).1 = q.1
  split <;> rfl
theorem Sz.chg {cs : List (Str × Int)} {l u : Int} (h : Sz cs l u) {z : Str} {v : Int} (h1 : l ≤ v) (h2 : v ≤ u) : Sz (TP.chg cs z v) l u := by
  refine ⟨fun q hq => ?_, by rw [chg_fst]; exact h.nd, by unfold TP.chg; rw [List.length_map]; exact h.few, fun q hq => ?_⟩
  · unfold TP.chg at hq
    obtain ⟨p, hp, rfl⟩ := List.mem_map.mp hq
    split
    · exact h.names p hp
    · exact h.names p hp
  · unfold TP.chg at hq
    obtain ⟨p, hp, rfl⟩ := List.mem_map.mp hq
    split
    · exact ⟨h1, h2⟩
    · exact h.rng p hp
theorem put_chg {cs : List (Str × Int)} {z : Str} {v : Int} (h : z ∈ cs.map (·.1)) : putK (dI cs) (Sum.inr z : Key) (.int v) = dI (chg cs z v) := by
  unfold putK
  rw [if_pos ?_]
  · unfold dI chg
    rw [List.map_map, List.map_map]
    refine List.map_congr_left fun q _ => ?_
    show (if (Sum.inr q.1 : Key) = Sum.inr z then (Sum.inr q.1, V.int v) else (Sum.inr q.1, V.int q.2)) = _
    by_cases e : q.1 = z
    · rw [if_pos (by rw [e])]
      show _ = (Sum.inr (if q.1 = z then (q.1, v) else q).1, V.int (if q.1 = z then (q.1, v) else q).2)
      rw [if_pos e]
    · rw [if_neg (fun h => e (Sum.inr.inj h))]
      show _ = (Sum.inr (if q.1 = z then (q.1, v) else q).1, V.int (if q.1 = z then (q.1, v) else q).2)
      rw [if_neg e]
  · rw [List.any_eq_true]
    obtain ⟨q, hq, rfl⟩ := List.mem_map.mp h
    exact ⟨(Sum.inr q.1, V.int q.2), by unfold dI; exact List.mem_map.mpr ⟨q, hq, rfl⟩, by simp⟩
/-! ### a program made -/
theorem made2 {K : PySem.W.Frag} {cs : List (Str × Int)} {ls : List Str} {hs : List (Str × Int)} {rows : List PyData} {H : Hp} {v vc vl vw : V} {C CE x dx : Addr} {Q : VK} {E : XK} (S1 : Sz cs (-99) 99) (hlk : locksD ls = true) (hll : ∀ z ∈ ls, isNameL z = true) (lf : ls.length ≤ 4) (S2 : Sz hs 1 4) (R : Rt2 (cs.map (·.1)) ls (hs.map (·.1)) rows)
    (hd : Dp K H v (.tuple rows)) (hC : ArgD H vc cs) (hL : ArgL H vl ls) (hCh : ArgD H vw hs) (nx : H x = none) (ndx : H dx = none) (q : ∀ H', Same H H' → Pf K H H' x C cs ls hs rows (placesD 22 rows []) → Q .non H') : spProg K 22 C CE [.ref x, v, vc, vl, vw] (upd (upd H dx (.own x)) x (.ins C dx [])) Q E := by
  have sc : Same H (upd (upd H dx (.own x)) x (.ins C dx [])) := ((Same.refl H).own ndx).own nx
  have eP : (placesD 22 rows []).length ≤ 60 := by rw [places_len]; exact R.c
  have eF : firstD (cs.map (·.1)) ls (hs.map (·.1)) 22 (.tuple rows) = none := R.w
  have eN : progD 22 cs ls hs (.tuple rows) = none := by
    unfold progD
    rw [S1.sizes, hlk, S2.sizes, eF]
    exact if_pos eP
  refine ⟨x, dx, v, .tuple rows, vc, vl, vw, cs, ls, hs, rfl, upd_same, sc.dp hd, R.g, hC.same sc, S1.okd, hL.same sc, by omega, fun z hz => (Low.of (hll z hz)).ok, hCh.same sc, S2.okd, Evl.sz_of (by show (placesD 22 rows []).length ≤ _; omega), fun H' v1 => ?_⟩
  rw [eN]
  intro O
  exact q H' (Same.V1 nx ndx v1) (Pf.made nx ndx O hd v1 R.t)
end TP
namespace TP
open PySem PySem.Spec PyProof.Rows L2 HX HB HG HU HH HD HS HV HQ HK HN TL HM
/-! ### draws off a list of three -/
structure Da (H : Hp) (s c : Addr) : Prop where
  ex : ∃ (a b : Int) (gs : List Int), H s = some (.lst [.int a, .int b, .ref c]) ∧ H c = some (.lst (gs.map V.int)) ∧ 0 ≤ a ∧ a < 2147483647 ∧ 0 ≤ b ∧ gs.length ≤ 1000 ∧ s ≠ c
/-- all but these two stand -/
def Ud (s c : Addr) (H H' : Hp) : Prop := ∀ b o, H b = some o → b ≠ s → b ≠ c → H' b = some o
section
variable {s c : Addr} {H H' H'' : Hp} {K : PySem.W.Frag}
theorem gen3 {x : Hp} {P : Hp → Prop} (k : ∀ y : Hp, y = x → P y) : P x := k x rfl
theorem Ud.refl (H : Hp) : Ud s c H H := fun _ _ h _ _ => h
theorem Ud.trans (a : Ud s c H H') (b : Ud s c H' H'') : Ud s c H H'' := fun x o h h1 h2 => b x o (a x o h h1 h2) h1 h2
theorem Ud.of (k : Same H H') : Ud s c H H' := fun b o h _ _ => k b o h
theorem Ud.set (u : Ud s c H H') {b : Addr} {o : HO} (hb : b = s ∨ b = c) : Ud s c H (upd H' b o) := fun x y h h1 h2 => by
  rw [upd_ne (by rintro rfl; exact hb.elim h1 h2)]
  exact u x y h h1 h2
theorem Ud.own (u : Ud s c H H') {b : Addr} {o : HO} (n : H b = none) : Ud s c H (upd H' b o) := fun x y h h1 h2 => by
  rw [upd_ne (ne_of_none h n)]
  exact u x y h h1 h2
theorem Ud.free (u : Ud s c H H') {b : Addr} (n : H' b = none) (h1 : b ≠ s) (h2 : b ≠ c) : H b = none := by
  cases e : H b with
  | none => rfl
  | some x => rw [u b x e h1 h2] at n; cases n
theorem Da.same (D : Da H s c) (k : Same H H') : Da H' s c := by
  obtain ⟨a, b, gs, h1, h2, h3⟩ := D.ex
  exact ⟨a, b, gs, k _ _ h1, k _ _ h2, h3⟩
theorem Da.set (D : Da H s c) {b : Addr} {o : HO} (h1 : b ≠ s) (h2 : b ≠ c) : Da (upd H b o) s c := by
  obtain ⟨a, b', gs, e1, e2, e3⟩ := D.ex
  exact ⟨a, b', gs, by rw [upd_ne h1.symm]; exact e1, by rw [upd_ne h2.symm]; exact e2, e3⟩
theorem Da.apart (D : Da H s c) {b : Addr} (n : H b = none) : b ≠ s ∧ b ≠ c := by
  obtain ⟨a, b', gs, e1, e2, e3⟩ := D.ex
  exact ⟨(ne_of_none e1 n).symm, (ne_of_none e2 n).symm⟩
theorem Ud.sqt (u : Ud s c H H') (D : Da H s c) {a : Addr} {xs : List V} (h : SqT K H a xs) : SqT K H' a xs := by
  obtain ⟨_, _, gs, h1, h2, _⟩ := D.ex
  rcases h with (h | ⟨o, h⟩) | h
  · exact .inl (.inl (u _ _ h (ne_of h h1 (by intro z; cases z)) (ne_of h h2 (by intro z; cases z))))
  · exact .inl (.inr ⟨o, u _ _ h (ne_of h h1 (by intro z; cases z)) (ne_of h h2 (by intro z; cases z))⟩)
  · exact .inr h
theorem Ud.dp (u : Ud s c H H') (D : Da H s c) {v : V} {x : PyData} (t : tupD x = true) (h : Dp K H v x) : Dp K H' v x := dp_keep (fun _ _ h => u.sqt D h) t h
theorem Ud.dpAll (u : Ud s c H H') (D : Da H s c) {vs : List V} {xs : List PyData} (t : tupAll xs = true) (h : DpAll K H vs xs) : DpAll K H' vs xs := dpAll_keep (fun _ _ h => u.sqt D h) t h
end
section
variable {P : Program} {w : World} {K : PySem.W.Frag} {mg : Str → Option Value} {base : Heap}
def spBegun (K : PySem.W.Frag) : Sp := fun vs H Q _ => ∃ (a : Addr) (ns : List Int), vs = [.ref a] ∧ SqL K H a (ns.map V.int) ∧ ns.length ≤ 63 ∧ ∀ s c H', Same H H' → H s = none → H c = none → Da H' s c → Q (.ref s) H'
theorem ok_begun (T : Tp K w mg) : FnOk P w K mg base CX0 1 T.f_begun T.fd_begun ["_law_script"] (spBegun K) := by
  refine T.D_begun.F.ok sc_begun (fun vs H Q E h => ?_) (fun cdv A outer s H vs Q E hr h => ?_)
  · obtain ⟨a, ns, rfl, _⟩ := h
    rfl
  · obtain ⟨a, ns, rfl, hS, hl, q⟩ := h
    refine ⟨_, (pss_one (ps_ret (pe_lst (pa_cons (pe_op op_add (pe_callB call_len_seq (by rfl) T.len PySem.boot_len (pa_cons (pv 0) pa_nil)) pe_int) (pa_cons pe_int (pa_cons (pe_callTy call_list_of (by rfl) T.list (by decide +kernel) (pa_cons (pv 0) pa_nil)) pa_nil)))))), ?_⟩
    refine ⟨_, rfl, a, _, rfl, .inl hS, _, _, rfl, rfl, _, rfl, a, _, rfl, .inl hS, fun c nc => ?_⟩
    have s1 := same_upd (o := .lst (ns.map V.int)) nc
    have hc : (upd H c (.lst (ns.map V.int))) c = some (.lst (ns.map V.int)) := upd_same
    generalize upd H c (.lst (ns.map V.int)) = H1 at s1 hc ⊢
    refine ⟨by show 3 ≤ sizeLine; decide, fun l nl => ?_⟩
    have s2 := same_upd (o := .lst [.int (((ns.map V.int).length : Nat) + 17), .int 0, .ref c]) nl
    exact q l c _ (s1.trans s2) (s1.free nl) nc ⟨_, _, ns, upd_same, s2 _ _ hc, by omega, by rw [List.length_map]; omega, by decide, by omega, fun e => by rw [e, hc] at nl; cases nl⟩
def spDraw : Sp := fun vs H Q _ => ∃ (s c : Addr) (n : Int), vs = [.ref s, .int n] ∧ Da H s c ∧ 0 < n ∧ n ≤ 10 ^ 40 ∧ ∀ r H', 0 ≤ r → r < n → Da H' s c → Ud s c H H' → Q (.int r) H'
theorem ok_draw (T : Tp K w mg) : FnOk P w K mg base CX0 1 T.f_draw T.fd_draw ["_law_s", "_law_size"] spDraw := by
  refine T.D_draw.F.ok sc_draw (fun vs H Q E h => ?_) (fun cdv A outer st H vs Q E hr h => ?_)
  · obtain ⟨s, c, n, rfl, _⟩ := h
    rfl
  · obtain ⟨s, c, n, rfl, D, hn, hn40, q⟩ := h
    have hdiv : CDivW 0 n := ⟨hn, by
      by_cases h0 : n.natAbs = 0
      · rw [h0]; decide
      · refine (Nat.log2_lt h0).mpr (Nat.lt_of_le_of_lt (show n.natAbs ≤ 10 ^ 40 by omega) ?_)
        decide +kernel⟩
    have hu := hu_of hr
    refine ⟨_, (Evl.pss_cut (ps_if (PW.pt (pw_and (pt_cmpR op_lt (pe_ix ix_list (pv 0) pe_int (fun _ _ => rfl)) pe_int (nomark _)) (pw_and1 (pt_cmpR (op_neD hr.units) (pe_ix ix_list (pv 0) pe_int (fun _ _ => rfl)) (pe_lst pa_nil) (nomark _)))))
  (pss_cons (ps_set (i := 2) sc_draw.nd rfl (.inl rfl) (pe_bm PySem.F.plainAttrs_list PySem.F.slot_list_pop PySem.F.type_list_pop mt_popAt (pe_ix ix_list (pv 0) pe_int (fun _ _ => rfl)) (pa_cons pe_int pa_nil)))
  (pss_cons (ps_asg (pe_callB (call_max2 rfl) (by rfl) T.max (by decide +kernel) (pa_cons pe_int (pa_cons (pe_op op_fdivW (pv 2) (pe_op op_pow pe_int pe_int)) pa_nil))) (pg_sub (pv 0) pe_int set_list))
  (pss_one (ps_asg (pe_op op_mod (pe_op op_add (pe_op op_add (pe_op op_mul (pe_ix ix_list (pv 0) pe_int (fun _ _ => rfl)) pe_int) (pv 2)) pe_int) pe_int) (pg_sub (pv 0) pe_int set_list)))))
  pss_nil)
  (pss_cons (ps_set (i := 3) sc_draw.nd rfl (.inl rfl) (pe_ix ix_list (pv 0) pe_int (fun _ _ => rfl)))
  (pss_cons (ps_asg (pe_op op_fdivW (pv 3) (pv 1)) (pg_sub (pv 0) pe_int set_list))
  (pss_cons (ps_asg (pe_op op_mod (pe_op op_add (pe_op op_mul (pe_ix ix_list (pv 0) pe_int (fun _ _ => rfl)) pe_int) pe_int) pe_int) (pg_sub (pv 0) pe_int set_list))
  (pss_one (ps_ret (pe_op op_modN (pe_ifExp (pt_cmpR op_gt (pv 3) pe_int (nomark _)) (pv 3) (pe_op op_fdiv (pe_op op_mod (pe_op op_mul (pe_ix ix_list (pv 0) pe_int (fun _ _ => rfl)) (pe_ix ix_list (pv 0) pe_int (fun _ _ => rfl))) pe_int) pe_int)) (pv 1)))))))), ?_⟩
    -- a cell
    refine ⟨fun σ H1 => ∃ y2 : Option V, σ = [some (.ref s), some (.int n), y2, none] ∧ Da H1 s c ∧ Ud s c H H1, ?_, ?_⟩
    · obtain ⟨a, b, gs, h1, h2, ha, ha2, hb, hg, sc⟩ := D.ex
      refine ⟨_, rfl, s, _, _, _, rfl, rfl, sl h1, atI_nat (j := 1) rfl, _, _, rfl, rfl, _, rfl, ?_⟩
      refine ite2 (fun _ => ?_) (fun _ => iteF ⟨none, rfl, D, Ud.refl H⟩)
      refine ⟨_, rfl, s, _, _, _, rfl, rfl, sl h1, atI_nat (j := 2) rfl, Nat.zero_le _, fun e ne => ?_⟩
      have s1 := same_upd (o := .lst []) ne
      have h1 := s1 _ _ h1
      have h2 := s1 _ _ h2
      have D1 := D.same s1
      refine ⟨.list (gs.map .int), .list [], .lst (sl h2) (dp_ints gs), .lst (sl upd_same) .nil, ints_shaped gs, rfl, _, rfl, ?_⟩
      have ev : PyData.eqv (.list (gs.map .int)) (.list []) = decide (gs.length = 0) := eqv_nil .int gs
      rw [ev]
      generalize upd H e (.lst []) = H1 at s1 h1 h2 D1 ⊢
      by_cases hg0 : gs.length = 0
      · rw [decide_eq_true hg0]
        exact iteF ⟨none, rfl, D1, Ud.of s1⟩
      rw [decide_eq_false hg0]
      refine iteT ?_
      obtain ⟨g0, gr, rfl⟩ : ∃ g0 gr, gs = g0 :: gr := by
        cases gs with
        | nil => exact absurd rfl hg0
        | cons g0 gr => exact ⟨g0, gr, rfl⟩
      -- popped
      refine ⟨_, rfl, s, _, _, _, rfl, rfl, sl h1, atI_nat (j := 2) rfl, .inl ⟨rfl, _, sl h2⟩, c, _, 0, 0, .int g0, rfl, rfl, h2, by decide, by decide, seq0 _, rfl, ?_⟩
      have h1' : (upd H1 c (.lst ((List.map V.int (g0 :: gr)).eraseIdx 0))) s = some (.lst [.int a, .int b, .ref c]) := by rw [upd_ne sc]; exact h1
      have h2' : (upd H1 c (.lst ((List.map V.int (g0 :: gr)).eraseIdx 0))) c = some (.lst (gr.map V.int)) := upd_same
      have u1 : Ud s c H (upd H1 c (.lst ((List.map V.int (g0 :: gr)).eraseIdx 0))) := (Ud.of s1).set (.inr rfl)
      show tSeq _ _ _ _ (upd H1 c (.lst ((List.map V.int (g0 :: gr)).eraseIdx 0)))
      generalize upd H1 c (.lst ((List.map V.int (g0 :: gr)).eraseIdx 0)) = H2 at h1' h2' u1 ⊢
      refine ⟨_, rfl, _, _, rfl, rfl, ⟨by decide, by decide, by decide⟩, _, _, rfl, rfl, ⟨by decide +kernel, by decide +kernel⟩, _, _, rfl, ?_⟩
      refine ⟨_, rfl, s, _, 1, 1, rfl, rfl, h1', rfl, ?_⟩
      refine gen3 fun H3 eH => ?_
      have u2 : Ud s c H H3 := by rw [eH]; exact u1.set (.inl rfl)
      have h2'' : H3 c = some (.lst (gr.map V.int)) := by rw [eH, upd_ne sc.symm]; exact h2'
      obtain ⟨b', hb', h1''⟩ : ∃ b' : Int, 0 ≤ b' ∧ H3 s = some (.lst [.int a, .int b', .ref c]) := ⟨if g0 / 10 ^ (18 : Int).toNat > 0 then g0 / 10 ^ (18 : Int).toNat else 0, by split <;> omega, by rw [eH]; exact upd_same⟩
      clear eH
      refine ⟨_, rfl, s, _, _, _, rfl, rfl, sl h1'', atI_nat (j := 0) rfl, _, _, rfl, rfl, .inr ⟨by decide, by decide⟩, _, rfl, _, _, rfl, rfl, _, _, rfl, rfl, _, _, rfl, rfl, by show (0 : Int) < 2147483647; decide, ?_⟩
      refine ⟨_, rfl, s, _, 0, 0, rfl, rfl, h1'', rfl, ?_⟩
      refine ⟨_, rfl, ⟨_, b', gr, upd_same, by rw [upd_ne sc.symm]; exact h2'', Int.emod_nonneg _ (by decide), Int.emod_lt_of_pos _ (by decide), hb', by rw [List.length_cons] at hg; omega, sc⟩, u2.set (.inl rfl)⟩
    rintro _ H1 ⟨y2, rfl, D1, u1⟩
    obtain ⟨a, b, gs, h1, h2, ha, ha2, hb, hg, sc⟩ := D1.ex
    refine ⟨_, rfl, s, _, _, _, rfl, rfl, sl h1, atI_nat (j := 1) rfl, ?_⟩
    refine ⟨_, rfl, _, rfl, _, _, rfl, rfl, hdiv, ?_⟩
    refine ⟨_, rfl, s, _, 1, 1, rfl, rfl, h1, rfl, ?_⟩
    refine gen3 fun H2 eH => ?_
    have u2 : Ud s c H H2 := by rw [eH]; exact u1.set (.inl rfl)
    have h2' : H2 c = some (.lst (gs.map V.int)) := by rw [eH, upd_ne sc.symm]; exact h2
    obtain ⟨b', hb', h1'⟩ : ∃ b' : Int, 0 ≤ b' ∧ H2 s = some (.lst [.int a, .int b', .ref c]) := ⟨b / n, Int.ediv_nonneg hb (by omega), by rw [eH]; exact upd_same⟩
    clear eH
    refine ⟨_, rfl, s, _, _, _, rfl, rfl, sl h1', atI_nat (j := 0) rfl, _, _, rfl, rfl, .inr ⟨by decide, by decide⟩, _, _, rfl, rfl, _, _, rfl, rfl, by show (0 : Int) < 2147483647; decide, ?_⟩
    refine ⟨_, rfl, s, _, 0, 0, rfl, rfl, h1', rfl, ?_⟩
    refine gen3 fun H3 eH => ?_
    have u3 : Ud s c H H3 := by rw [eH]; exact u2.set (.inl rfl)
    have h3' : H3 c = some (.lst (gs.map V.int)) := by rw [eH, upd_ne sc.symm]; exact h2'
    obtain ⟨a', ha', hb2, h1''⟩ : ∃ a' : Int, 0 ≤ a' ∧ a' < 2147483647 ∧ H3 s = some (.lst [.int a', .int b', .ref c]) := ⟨(a * 69621 + 13) % 2147483647, Int.emod_nonneg _ (by decide), Int.emod_lt_of_pos _ (by decide), by rw [eH]; exact upd_same⟩
    clear eH
    have D3 : Da H3 s c := ⟨a', b', gs, h1'', h3', ha', hb2, hb', hg, sc⟩
    have n0 : n ≠ 0 := by omega
    refine ⟨_, rfl, _, _, rfl, rfl, _, rfl, ite2 (fun _ => ?_) (fun _ => ?_)⟩
    · refine ⟨_, rfl, _, rfl, _, _, rfl, rfl, n0, q _ _ (Int.fmod_nonneg_of_pos _ hn) (Int.fmod_lt_of_pos _ hn) D3 u3⟩
    · refine ⟨_, rfl, s, _, _, _, rfl, rfl, sl h1'', atI_nat (j := 0) rfl, _, rfl, s, _, _, _, rfl, rfl, sl h1'', atI_nat (j := 0) rfl, _, _, rfl, rfl, .inl ⟨by omega, by omega⟩, _, _, rfl, rfl, by show (0 : Int) < 2147483629; decide, _, _, rfl, rfl, ⟨by decide, by decide⟩, _, rfl, _, _, rfl, rfl, n0, q _ _ (Int.fmod_nonneg_of_pos _ hn) (Int.fmod_lt_of_pos _ hn) D3 u3⟩
/-- one of a list -/
def spPick (K : PySem.W.Frag) : Sp := fun vs H Q _ => ∃ (s c l : Addr) (xs : List V), vs = [.ref s, .ref l] ∧ Da H s c ∧ l ≠ s ∧ l ≠ c ∧ H l = some (.lst xs) ∧ 0 < xs.length ∧ xs.length ≤ 1000 ∧ ∀ (j : Nat) v H', xs[j]? = some v → Da H' s c → Ud s c H H' → Q v H'
theorem ok_pick (T : Tp K w mg) : FnOk P w K mg base CX0 2 T.f_pick T.fd_pick ["_law_s", "_law_some"] (spPick K) := by
  refine T.D_pick.F.ok sc_pick (fun vs H Q E h => ?_) (fun cdv A outer st H vs Q E hr h => ?_)
  · obtain ⟨s, c, l, xs, rfl, _⟩ := h
    rfl
  · obtain ⟨s, c, l, xs, rfl, D, n1, n2, hl, h0, h1, q⟩ := h
    have hu := hu_of hr
    refine ⟨_, (pss_one (ps_ret (pe_ix ix_list (pv 1) (pcall T.D_draw (ok_draw T) hr (by rfl) (pa_cons (pv 0) (pa_cons (pe_callB call_len_seq (by rfl) T.len PySem.boot_len (pa_cons (pv 1) pa_nil)) pa_nil))) (fun _ _ => rfl)))), ?_⟩
    refine ⟨_, rfl, _, rfl, _, rfl, l, _, rfl, .inl (sl hl), s, c, _, rfl, D, by omega, Int.le_trans (Int.ofNat_le.mpr h1) (by decide), fun r H' r0 r1 D' u' => ?_⟩
    obtain ⟨j, rfl⟩ : ∃ j : Nat, r = (j : Int) := ⟨r.toNat, by omega⟩
    have hj : j < xs.length := by omega
    exact ⟨l, xs, _, xs[j], rfl, rfl, sl (u' _ _ hl n1 n2), atI_nat (List.getElem?_eq_getElem hj), q j _ _ (List.getElem?_eq_getElem hj) D' u'⟩
end
end TP
namespace TP
open PySem PySem.Spec PyProof.Rows L2 HX HB HG HU HH HD HS HV HQ HK HN TL HM
def own20 : List Str := ["put", "read", "write", "tell", "send", "take", "hold", "rest", "nest", "within", "start", "off", "shield", "fail", "catch", "try", "if", "often", "sum", "less"]
abbrev ownT : Str := "put read write tell send take hold rest nest within start off shield fail catch try if often sum less"
theorem own_codes : spl [32] 0 [] (tl ownT) = own20.map tl := by decide +kernel
theorem own_split : Txt.split ownT " " = own20 := by
  have e := SX.split_S (a := tl ownT) (b := [32]) (by simp) (by decide)
  have e2 : Txt.split ownT " " = (spl [32] 0 [] (tl ownT)).map SX.S := e
  rw [e2, own_codes, List.map_map]
  have : (SX.S ∘ tl) = id := by funext z; exact SX.S_tl z
  rw [this, List.map_id]
theorem own20_names : ∀ z ∈ own20, isNameL z = true := by decide +kernel
theorem own20_nodup : own20.Nodup := by decide +kernel
def ownAt (sh i : Nat) : Str := own20.getD ((sh + 3 * i) % 20) ""
theorem ownAt_mem (sh i : Nat) : ownAt sh i ∈ own20 := by
  unfold ownAt
  have h : (sh + 3 * i) % 20 < own20.length := Nat.mod_lt _ (by decide)
  rw [List.getD_eq_getElem?_getD, List.getElem?_eq_getElem h]
  exact List.getElem_mem h
theorem ownAt_inj {sh i j : Nat} (hi : i < 20) (hj : j < 20) (h : ownAt sh i = ownAt sh j) : i = j := by
  unfold ownAt at h
  have h1 : (sh + 3 * i) % 20 < own20.length := Nat.mod_lt _ (by decide)
  have h2 : (sh + 3 * j) % 20 < own20.length := Nat.mod_lt _ (by decide)
  rw [List.getD_eq_getElem?_getD, List.getD_eq_getElem?_getD, List.getElem?_eq_getElem h1, List.getElem?_eq_getElem h2] at h
  have h3 : own20[(sh + 3 * i) % 20] = own20[(sh + 3 * j) % 20] := h
  have nd := List.pairwise_iff_getElem.mp own20_nodup
  rcases Nat.lt_trichotomy ((sh + 3 * i) % 20) ((sh + 3 * j) % 20) with k | k | k
  · exact absurd h3 (nd _ _ h1 h2 k)
  · omega
  · exact absurd h3.symm (nd _ _ h2 h1 k)
theorem map_range_nodup {α : Type} {f : Nat → α} {n : Nat} (h : ∀ i j, i < n → j < n → f i = f j → i = j) : ((List.range n).map f).Nodup := by
  refine List.pairwise_map.mpr ?_
  refine List.Pairwise.imp_of_mem ?_ (List.nodup_range (n := n))
  intro a b ha hb hab e
  exact hab (h a b (List.mem_range.mp ha) (List.mem_range.mp hb) e)
def stepsL : List Nat := [1, 3, 5, 7, 9, 11, 15, 17, 19, 21, 23, 25]
theorem step_inj {s f i j : Nat} (hs : s ∈ stepsL) (hi : i < 26) (hj : j < 26) (h : (f + s * i) % 26 = (f + s * j) % 26) : i = j := by
  simp only [stepsL, List.mem_cons, List.not_mem_nil, or_false] at hs
  rcases hs with rfl | rfl | rfl | rfl | rfl | rfl | rfl | rfl | rfl | rfl | rfl | rfl <;> omega
/-- which letter tells names apart -/
def keyN (front : Bool) (z : Str) : Option Nat := if front = true then (tl z).head? else (tl z).getLast?
structure NmsI (zs : List Str) (front : Bool) (f s : Nat) : Prop where
  key : ∀ (i : Nat) (z : Str), zs[i]? = some z → keyN front z = some (97 + (f + s * i) % 26)
  nm : ∀ z ∈ zs, isNameL z = true
theorem NmsI.nodup {zs : List Str} {front : Bool} {f s : Nat} (h : NmsI zs front f s) (hs : s ∈ stepsL) (hl : zs.length ≤ 26) : zs.Nodup := by
  refine List.pairwise_iff_getElem.mpr fun i j hi hj hij e => ?_
  have h1 := h.key i _ (List.getElem?_eq_getElem hi)
  have h2 := h.key j _ (List.getElem?_eq_getElem hj)
  rw [e, h2] at h1
  have h1 := Option.some.inj h1
  have := step_inj hs (i := i) (j := j) (f := f) (by omega) (by omega) (by omega)
  omega
theorem NmsI.snoc {zs : List Str} {front : Bool} {f s : Nat} {z : Str} (h : NmsI zs front f s) (hz : isNameL z = true) (hk : keyN front z = some (97 + (f + s * zs.length) % 26)) : NmsI (zs ++ [z]) front f s := by
  refine ⟨fun i y e => ?_, fun y hy => ?_⟩
  · by_cases hi : i < zs.length
    · rw [List.getElem?_append_left hi] at e
      exact h.key i y e
    · rw [List.getElem?_append_right (by omega)] at e
      have h0 : i - zs.length = 0 := by
        have := (List.getElem?_eq_some_iff.mp e).1
        rw [List.length_singleton] at this
        omega
      rw [h0] at e
      cases e
      rw [hk, show i = zs.length by omega]
  · rcases List.mem_append.mp hy with hy | hy
    · exact h.nm y hy
    · rw [List.mem_singleton.mp hy]; exact hz
theorem low_name {z : Str} (h1 : ∀ c ∈ tl z, isLow c = true) (h2 : 1 ≤ z.length) (h3 : z.length ≤ 6) : isNameL z = true := by
  unfold isNameL
  rw [decide_eq_true h2, decide_eq_true h3, List.all_eq_true.mpr h1]
  rfl
section
variable {P : Program} {w : World} {K : PySem.W.Frag} {mg : Str → Option Value} {base : Heap}
def spNames : Sp := fun vs H Q _ => ∃ (s c : Addr) (m : Nat), vs = [.ref s, .int (m : Int)] ∧ Da H s c ∧ m ≤ 20 ∧ ∀ (p : Addr) (zs : List Str) (H' : Hp), H p = none → Da H' s c → Ud s c H H' → H' p = some (.lst (zs.map V.str)) → zs.length = m → zs.Nodup → (∀ z ∈ zs, isNameL z = true) → Q (.ref p) H'
theorem ok_names (T : Tp K w mg) : FnOk P w K mg base CX0 2 T.f_names T.fd_names ["_law_s", "_law_many"] spNames := by
  refine T.D_names.F.ok sc_names (fun vs H Q E h => ?_) (fun cdv A outer st H vs Q E hr h => ?_)
  · obtain ⟨s, c, m, rfl, _⟩ := h
    rfl
  · obtain ⟨s, c, m, rfl, D, hm, q⟩ := h
    have hu := hu_of hr
    refine ⟨_, (pss_cons (ps_set (i := 2) sc_names.nd rfl (.inr rfl) pe_str)
  (pss_cons (ps_if (pt_cmpR op_eq (pcall T.D_draw (ok_draw T) hr (by rfl) (pa_cons (pv 0) (pa_cons pe_int pa_nil))) pe_int (nomark _))
  (pss_cons (ps_set (i := 3) sc_names.nd rfl (.inr rfl) (pcall T.D_draw (ok_draw T) hr (by rfl) (pa_cons (pv 0) (pa_cons pe_int pa_nil))))
  (pss_one (ps_ret (pe_lc (own := [("_law_k", 10)]) (g := gName 10) (by rfl) sc_names.nd (pi_range1 (by rfl) T.range (pa_cons (pv 1) pa_nil)) (blkOk_by (own := [("_law_k", 10)]) (N := ["_law_s", "_law_many", "_law_own", "_law_shift", "_law_letters", "_law_root", "_law_first", "_law_front", "_law_step", "_law_names_here", "_law_k", "_law_letter", "_law_part"]) (sc := defScope s_names) (by decide +kernel)) (fun _ _ _ _ _ => (pg_name (i := 10) sc_names.nd rfl (.inl rfl))) (fun _ _ _ _ _ => pts_nil) (fun _ _ _ _ _ => (pe_ix (show IxR _ (rIxL K) from ix_list) (HAB.pe_bmK (K := K) rfl PySem.F.plainAttrs_str PySem.F.slot_str_split PySem.F.type_str_split mt_split (pv 2) (pa_cons pe_str pa_nil)) (pe_op op_mod (pe_op op_add (pv 3) (pe_op op_mul pe_int (pv 10))) pe_int) (fun _ _ => rfl)))))))
  pss_nil)
  (pss_cons (ps_set (i := 4) sc_names.nd rfl (.inr rfl) pe_str)
  (pss_cons (ps_set (i := 5) sc_names.nd rfl (.inl rfl) (pe_join pe_str (pe_lc (own := [("_law_k", 10)]) (g := gName 10) (by rfl) sc_names.nd (pi_range1 (by rfl) T.range (pa_cons (pe_ix ix_list (pe_lst (pa_cons pe_int (pa_cons pe_int (pa_cons pe_int (pa_cons pe_int (pa_cons pe_int (pa_cons pe_int pa_nil))))))) (pcall T.D_draw (ok_draw T) hr (by rfl) (pa_cons (pv 0) (pa_cons pe_int pa_nil))) (fun _ _ => rfl)) pa_nil)) (blkOk_by (own := [("_law_k", 10)]) (N := ["_law_s", "_law_many", "_law_own", "_law_shift", "_law_letters", "_law_root", "_law_first", "_law_front", "_law_step", "_law_names_here", "_law_k", "_law_letter", "_law_part"]) (sc := defScope s_names) (by decide +kernel)) (fun _ _ _ _ _ => (pg_name (i := 10) sc_names.nd rfl (.inl rfl))) (fun _ _ _ _ _ => pts_nil) (fun _ _ _ _ _ => (pe_ix ix_str (pv 4) (pcall T.D_draw (ok_draw T) hr (by rfl) (pa_cons (pv 0) (pa_cons pe_int pa_nil))) (fun _ _ => rfl))))))
  (pss_cons (ps_par (i := 6) (j := 7) rfl sc_names.nd rfl rfl (by decide) rfl rfl (pa_cons (pcall T.D_draw (ok_draw T) hr (by rfl) (pa_cons (pv 0) (pa_cons pe_int pa_nil))) (pa_cons (pcall T.D_draw (ok_draw T) hr (by rfl) (pa_cons (pv 0) (pa_cons pe_int pa_nil))) pa_nil)) (by rfl))
  (pss_cons (ps_set (i := 8) sc_names.nd rfl (.inl rfl) (pe_ix ix_list (pe_lst (pa_cons pe_int (pa_cons pe_int (pa_cons pe_int (pa_cons pe_int (pa_cons pe_int (pa_cons pe_int (pa_cons pe_int (pa_cons pe_int (pa_cons pe_int (pa_cons pe_int (pa_cons pe_int (pa_cons pe_int pa_nil))))))))))))) (pcall T.D_draw (ok_draw T) hr (by rfl) (pa_cons (pv 0) (pa_cons pe_int pa_nil))) (fun _ _ => rfl)))
  (pss_cons (ps_set (i := 9) sc_names.nd rfl (.inl rfl) (pe_lst pa_nil))
  (pss_cons (ps_for PassesOwn.never rfl (pi_range1 (by rfl) T.range (pa_cons (pv 1) pa_nil)) (pg_name (i := 10) sc_names.nd rfl (.inl rfl))
  (pss_cons (ps_set (i := 11) sc_names.nd rfl (.inl rfl) (pe_ix ix_str (pv 4) (pe_op op_mod (pe_op op_add (pv 6) (pe_op op_mul (pv 8) (pv 10))) pe_int) (fun _ _ => rfl)))
  (pss_cons (ps_set (i := 12) sc_names.nd rfl (.inl rfl) (pe_slice sl_str (pv 5) po_none (po_some (pcall T.D_draw (ok_draw T) hr (by rfl) (pa_cons (pv 0) (pa_cons (pe_op op_add (pe_callB call_len_str (by rfl) T.len PySem.boot_len (pa_cons (pv 5) pa_nil)) pe_int) pa_nil))))))
  (pss_one (ps_expr (pe_bm PySem.F.plainAttrs_list PySem.F.slot_list_append PySem.F.type_list_append mt_append (pv 9) (pa_cons (pe_ifExp (pt_cmpR op_eq (pv 7) pe_int (nomark _)) (pe_op op_add_str (pv 11) (pv 12)) (pe_op op_add_str (pv 12) (pv 11))) pa_nil)))))))
  (pss_one (ps_ret (pv 9))))))))))), ?_⟩
    refine ⟨_, rfl, s, c, 6, rfl, D, by decide, by decide, fun r1 H1 _ _ D1 u1 => ⟨rfl, _, rfl, ?_⟩⟩
    refine ite2 (fun _ => ?_) (fun _ => ?_)
    · -- the system's own
      refine ⟨_, rfl, s, c, 20, rfl, D1, by decide, by decide, fun sh H2 a0 a1 D2 u2 => ?_⟩
      obtain ⟨sh, rfl⟩ : ∃ k : Nat, sh = k := ⟨sh.toNat, by omega⟩
      refine ⟨_, rfl, _, rfl, by omega, by omega, fun L nL => ?_⟩
      have aL := D2.apart nL
      have u02 := u1.trans u2
      have nLH : H L = none := u02.free nL aL.1 aL.2
      refine lc_it walk_range (fun i H3 => Same H2 H3 ∧ H3 L = some (.lst (((List.range i).map (ownAt sh)).map V.str))) ⟨same_upd nL, upd_same⟩ (fun _ _ _ _ => trivial) ?_ ?_
      · rintro i x H3 H4 hi ⟨sm, hL⟩ ⟨rfl, rfl⟩
        refine ⟨rfl, _, rfl, rfl, ownT, " ", rfl, rfl, by rfl, by show _ ≤ sizeLine; decide +kernel, fun l nl => ?_⟩
        rw [own_split]
        have s5 := same_upd (o := .lst (own20.map V.str)) nl
        have hl5 : (upd H4 l (.lst (own20.map V.str))) l = some (.lst (own20.map V.str)) := upd_same
        generalize upd H4 l (.lst (own20.map V.str)) = H5 at s5 hl5 ⊢
        have e0 : ((sh : Int) + 3 * (0 + (i : Int))) % 20 = (((sh + 3 * i) % 20 : Nat) : Int) := by omega
        have hlt : (sh + 3 * i) % 20 < own20.length := Nat.mod_lt _ (by decide)
        have e1 : ownAt sh i = own20[(sh + 3 * i) % 20] := by
          unfold ownAt
          rw [List.getD_eq_getElem?_getD, List.getElem?_eq_getElem hlt]
          rfl
        refine ⟨_, rfl, _, rfl, _, _, rfl, rfl, .inl ⟨by decide, by decide⟩, _, _, rfl, rfl, _, _, rfl, rfl, by show (0 : Int) < 20; decide, ?_⟩
        refine ⟨l, _, _, .str own20[(sh + 3 * i) % 20], rfl, rfl, sl hl5, ?_, _, s5 _ _ hL, ?_, (sm.trans s5).own nL, ?_⟩
        · rw [e0]
          exact atI_nat (by rw [List.getElem?_map, List.getElem?_eq_getElem hlt]; rfl)
        · rw [List.length_map, List.length_map, List.length_range]
          exact small1000 (by omega)
        · rw [upd_same, List.range_succ, List.map_append, List.map_append, ← e1]
          rfl
      · rintro H3 ⟨sm, hL⟩
        refine q L _ H3 nLH (D2.same sm) (u02.trans (Ud.of sm)) hL (by rw [List.length_map, List.length_range]; omega) (map_range_nodup fun i j hi hj e => ownAt_inj (by omega) (by omega) e) fun z hz => ?_
        obtain ⟨i, _, rfl⟩ := List.mem_map.mp hz
        exact own20_names _ (ownAt_mem sh i)
    -- a root
    refine nx_ ⟨⟨_, rfl⟩, ?_⟩
    refine ⟨by show 6 ≤ sizeLine; decide, fun l nl => ?_⟩
    have s1 := same_upd (o := .lst (([0, 1, 1, 2, 3, 5] : List Int).map V.int)) nl
    have hl1 : (upd H1 l (.lst (([0, 1, 1, 2, 3, 5] : List Int).map V.int))) l = some (.lst (([0, 1, 1, 2, 3, 5] : List Int).map V.int)) := upd_same
    have al := D1.apart nl
    refine ⟨_, rfl, s, c, 6, rfl, D1.same s1, by decide, by decide, fun r H2 a0 a1 D2 u2 => ?_⟩
    have hl2 := u2 _ _ hl1 al.1 al.2
    obtain ⟨n, hn5, hat⟩ : ∃ n : Nat, n ≤ 5 ∧ atI (([0, 1, 1, 2, 3, 5] : List Int).map V.int) r = some (.int (n : Int)) := by
      obtain ⟨k, rfl⟩ : ∃ k : Nat, r = k := ⟨r.toNat, by omega⟩
      have hk : k < 6 := by omega
      have h6 : ∀ k < 6, ∃ n : Nat, n ≤ 5 ∧ (([0, 1, 1, 2, 3, 5] : List Int).map V.int)[k]? = some (.int (n : Int)) := by
        intro k hk
        match k, hk with
        | 0, _ => exact ⟨0, by decide, rfl⟩
        | 1, _ => exact ⟨1, by decide, rfl⟩
        | 2, _ => exact ⟨1, by decide, rfl⟩
        | 3, _ => exact ⟨2, by decide, rfl⟩
        | 4, _ => exact ⟨3, by decide, rfl⟩
        | 5, _ => exact ⟨5, by decide, rfl⟩
        | k + 6, hk => omega
      obtain ⟨n, h1, h2⟩ := h6 k hk
      exact ⟨n, h1, atI_nat h2⟩
    refine ⟨l, _, _, .int (n : Int), rfl, rfl, sl hl2, hat, ?_⟩
    have u02 : Ud s c H H2 := u1.trans ((Ud.of s1).trans u2)
    refine ⟨_, rfl, by omega, by omega, fun L nL => ?_⟩
    have aL := D2.apart nL
    refine lc_it walk_range (fun i H3 => Da H3 s c ∧ Ud s c H2 H3 ∧ ∃ cs : List Nat, H3 L = some (.lst ((cs.map sg).map V.str)) ∧ cs.length = i ∧ ∀ x ∈ cs, isLow x = true) ⟨D2.same (same_upd nL), Ud.of (same_upd nL), [], upd_same, rfl, fun _ z => by cases z⟩ (fun _ _ _ _ => trivial) ?_ ?_
    · rintro i x H7 H8 hi ⟨D7, u7, cs, hL, hcs, hlow⟩ ⟨rfl, rfl⟩
      refine ⟨rfl, _, rfl, _, rfl, s, c, 26, rfl, D7, by decide, by decide, fun r H9 r0 r1 D9 u9 => ?_⟩
      obtain ⟨k, rfl⟩ : ∃ k : Nat, r = (k : Int) := ⟨r.toNat, by omega⟩
      refine ⟨_, _, _, rfl, rfl, by show 26 ≤ sizeLine; decide, letters_at (by omega), _, u9 _ _ hL aL.1 aL.2, ?_, ?_, ?_, cs ++ [k + 97], ?_, ?_, ?_⟩
      · rw [List.length_map, List.length_map]; exact small1000 (by omega)
      · exact D9.set aL.1 aL.2
      · exact (u7.trans u9).own nL
      · rw [upd_same, List.map_append, List.map_append]; rfl
      · rw [List.length_append, hcs]; rfl
      · intro y hy
        rcases List.mem_append.mp hy with hy | hy
        · exact hlow y hy
        · rw [List.mem_singleton.mp hy]
          unfold isLow
          rw [decide_eq_true (by omega), decide_eq_true (by omega)]
          rfl
    rintro H7 ⟨D7, u7, cs, hL, hcs, hlow⟩
    refine ⟨_, L, _, rfl, rfl, .inl (sl hL), ?_, ?_⟩
    · rw [sg_sum, List.length_map, show (Str.ofString "").length = 0 from rfl]
      omega
    have ej : tl (Txt.join (Str.ofString "") (cs.map sg)) = cs := join_sg cs
    generalize Txt.join (Str.ofString "") (cs.map sg) = root at ej ⊢
    have hrl : root.length ≤ 5 := by rw [len_tl, ej]; omega
    have hrlow : ∀ x ∈ tl root, isLow x = true := by rw [ej]; exact hlow
    have u07 := u02.trans u7
    -- first, front, step
    refine ⟨_, rfl, s, c, 26, rfl, D7, by decide, by decide, fun f0 H8 f1 f2 D8 u8 => ?_⟩
    obtain ⟨f, rfl⟩ : ∃ k : Nat, f0 = (k : Int) := ⟨f0.toNat, by omega⟩
    refine ⟨_, rfl, s, c, 2, rfl, D8, by decide, by decide, fun fr H9 g1 g2 D9 u9 => ?_⟩
    refine ⟨_, _, rfl, ?_⟩
    refine ⟨by show 12 ≤ sizeLine; decide, fun l2 nl2 => ?_⟩
    have t1 := same_upd (o := .lst ((stepsL.map fun n : Nat => V.int (n : Int)))) nl2
    have hl2' : (upd H9 l2 (.lst ((stepsL.map fun n : Nat => V.int (n : Int))))) l2 = some (.lst ((stepsL.map fun n : Nat => V.int (n : Int)))) := upd_same
    have al2 := D9.apart nl2
    refine ⟨_, rfl, s, c, 12, rfl, D9.same t1, by decide, by decide, fun r2 H10 b0 b1 D10 u10 => ?_⟩
    obtain ⟨k2, rfl⟩ : ∃ k : Nat, r2 = k := ⟨r2.toNat, by omega⟩
    have hk2 : k2 < stepsL.length := by show k2 < 12; omega
    have hl10 := u10 _ _ hl2' al2.1 al2.2
    refine ⟨l2, _, _, .int (stepsL[k2] : Nat), rfl, rfl, sl hl10, atI_nat (by rw [List.getElem?_map, List.getElem?_eq_getElem hk2]; rfl), ?_⟩
    have hst : stepsL[k2] ∈ stepsL := List.getElem_mem hk2
    generalize stepsL[k2] = stp at hst ⊢
    have hst26 : stp ≤ 25 := by
      have : ∀ n ∈ stepsL, n ≤ 25 := by decide
      exact this _ hst
    have u0A := ((u07.trans u8).trans u9).trans ((Ud.of t1).trans u10)
    -- the names
    refine ⟨Nat.zero_le _, fun N nN => ?_⟩
    have aN := D10.apart nN
    have nNH : H N = none := u0A.free nN aN.1 aN.2
    have t2 := same_upd (o := .lst []) nN
    have hN : (upd H10 N (.lst [])) N = some (.lst (([] : List Str).map V.str)) := upd_same
    show tSeq _ _ _ _ (upd H10 N (.lst []))
    generalize upd H10 N (.lst []) = H11 at t2 hN ⊢
    have D11 := D10.same t2
    have u0B := u0A.trans (Ud.of t2)
    refine ⟨_, rfl, _, rfl, by omega, by omega, ?_⟩
    refine for_it walk_range (fun i σ H3 => ∃ (y2 y3 : Option V) (zs : List Str) (y10 y11 y12 : Option V), σ = [some (.ref s), some (.int (m : Int)), y2, y3, some (.str "abcdefghijklmnopqrstuvwxyz"), some (.str root), some (.int (f : Int)), some (.int fr), some (.int (stp : Int)), some (.ref N), y10, y11, y12] ∧ Da H3 s c ∧ Ud s c H H3 ∧ H3 N = some (.lst (zs.map V.str)) ∧ zs.length = i ∧ NmsI zs (decide (fr = 1)) f stp) ?_ (fun _ _ _ _ _ => trivial) ?_ ?_
    · exact ⟨_, _, [], _, _, _, rfl, D11, u0B, hN, rfl, ⟨fun i z e => by simp at e, fun z hz => by cases hz⟩⟩
    · rintro i x σ H3 H4 hi ⟨y2, y3, zs, y10, y11, y12, rfl, D3, u3, hN3, hz, I⟩ ⟨rfl, rfl⟩
      have ei : ((f : Int) + (stp : Int) * (0 + (i : Int))) % 26 = (((f + stp * i) % 26 : Nat) : Int) := by
        rw [Int.zero_add, ← Int.natCast_mul, ← Int.natCast_add]
        rfl
      have hj : (f + stp * i) % 26 < 26 := Nat.mod_lt _ (by decide)
      refine ⟨_, rfl, _, rfl, _, rfl, _, rfl, _, _, rfl, rfl, .inl ⟨by omega, by omega⟩, _, _, rfl, rfl, _, _, rfl, rfl, by show (0 : Int) < 26; decide, ?_⟩
      refine ⟨_, _, (f + stp * i) % 26 + 97, rfl, rfl, by show 26 ≤ sizeLine; decide, by rw [ei]; exact letters_at hj, ?_⟩
      generalize ej : (f + stp * i) % 26 = j at hj
      have rsz : root.length ≤ sizeLine := Evl.sz_of (by omega)
      refine ⟨_, rfl, _, rfl, _, rfl, root, rfl, rsz, _, _, rfl, rfl, s, c, _, rfl, D3, by omega, Int.le_trans (show ((root.length : Nat) : Int) + 1 ≤ 6 by omega) (by decide), fun r5 H5 c0 c1 D5 u5 => ?_⟩
      obtain ⟨r5, rfl⟩ : ∃ k : Nat, r5 = k := ⟨r5.toNat, by omega⟩
      refine ⟨(r5 : Int), rfl, root, rfl, rsz, ?_⟩
      have hN5 := u5 _ _ hN3 aN.1 aN.2
      have ep : tl (cutS root none (some (r5 : Int))) = (tl root).take r5 := by
        show ((root.cps.toList.drop (HT.sIx root.length 0 none)).take (HT.sIx root.length root.length (some (r5 : Int)) - HT.sIx root.length 0 none)) = _
        rw [HT.sIx_none, HT.sIx_nat, List.drop_zero, Nat.sub_zero]
        have : r5 ≤ root.length := by omega
        rw [Nat.min_eq_left this]
      have plen : (cutS root none (some (r5 : Int))).length ≤ 5 := Nat.le_trans (cutS_length _ _ _) hrl
      have plow : ∀ x ∈ tl (cutS root none (some (r5 : Int))), isLow x = true := fun x hx => by
        rw [ep] at hx
        exact hrlow x (List.mem_of_mem_take hx)
      generalize cutS root none (some (r5 : Int)) = part at ep plen plow ⊢
      have lj : isLow (j + 97) = true := by
        unfold isLow
        rw [decide_eq_true (by omega), decide_eq_true (by omega)]
        rfl
      have e1 : tl (⟨#[j + 97]⟩ : Str) = [j + 97] := rfl
      have l1 : (⟨#[j + 97]⟩ : Str).length = 1 := rfl
      have fin : ∀ z : Str, isNameL z = true → keyN (decide (fr = 1)) z = some (97 + j) → ∃ (y2' y3' : Option V) (zs' : List Str) (y10' y11' y12' : Option V), [some (.ref s), some (.int (m : Int)), y2, y3, some (.str "abcdefghijklmnopqrstuvwxyz"), some (.str root), some (.int (f : Int)), some (.int fr), some (.int (stp : Int)), some (.ref N), some (V.int (0 + (i : Int))), some (V.str ⟨#[j + 97]⟩), some (V.str part)] = [some (.ref s), some (.int (m : Int)), y2', y3', some (.str "abcdefghijklmnopqrstuvwxyz"), some (.str root), some (.int (f : Int)), some (.int fr), some (.int (stp : Int)), some (.ref N), y10', y11', y12'] ∧ Da (upd H5 N (.lst (zs.map V.str ++ [V.str z]))) s c ∧ Ud s c H (upd H5 N (.lst (zs.map V.str ++ [V.str z]))) ∧ (upd H5 N (.lst (zs.map V.str ++ [V.str z]))) N = some (.lst (zs'.map V.str)) ∧ zs'.length = i + 1 ∧ NmsI zs' (decide (fr = 1)) f stp := fun z h1 h2 => by
        refine ⟨y2, y3, zs ++ [z], _, _, _, rfl, D5.set aN.1 aN.2, (u3.trans u5).own nNH, by rw [upd_same, List.map_append]; rfl, by rw [List.length_append, hz]; rfl, I.snoc h1 ?_⟩
        rw [h2, hz, ej]
      have fewN : (zs.map V.str).length < sizeLine := by rw [List.length_map]; exact small1000 (by omega)
      refine ⟨_, rfl, .inl ⟨rfl, _, sl hN5⟩, _, rfl, rfl, _, rfl, ?_⟩
      refine ite2 (fun hf => ?_) (fun hf => ?_)
      · have hf1 : decide (fr = 1) = true := decide_eq_true (V.int.inj (of_decide_eq_true hf))
        refine ⟨_, rfl, _, rfl, _, _, rfl, rfl, Evl.sz_of (by omega), N, _, _, rfl, rfl, hN5, fewN, fin _ (low_name ?_ ?_ ?_) ?_⟩
        · intro x hx
          rw [tl_append, e1] at hx
          rcases List.mem_append.mp hx with hx | hx
          · rw [List.mem_singleton.mp hx]; exact lj
          · exact plow x hx
        · rw [strLen_append]; omega
        · rw [strLen_append]; omega
        · unfold keyN
          rw [if_pos hf1, tl_append, e1]
          show some (j + 97) = _
          rw [Nat.add_comm]
      · have hf1 : ¬ decide (fr = 1) = true := fun h => hf (decide_eq_true (by rw [of_decide_eq_true h]))
        refine ⟨_, rfl, _, rfl, _, _, rfl, rfl, Evl.sz_of (by omega), N, _, _, rfl, rfl, hN5, fewN, fin _ (low_name ?_ ?_ ?_) ?_⟩
        · intro x hx
          rw [tl_append, e1] at hx
          rcases List.mem_append.mp hx with hx | hx
          · exact plow x hx
          · rw [List.mem_singleton.mp hx]; exact lj
        · rw [strLen_append]; omega
        · rw [strLen_append]; omega
        · unfold keyN
          rw [if_neg hf1, tl_append, e1, List.getLast?_append]
          show some (j + 97) = _
          rw [Nat.add_comm]
    · rintro σ H3 ⟨y2, y3, zs, y10, y11, y12, rfl, D3, u3, hN3, hz, I⟩
      exact ⟨_, rfl, q N zs H3 nNH D3 u3 hN3 hz (I.nodup hst (by omega)) I.nm⟩
end
end TP
namespace TP
open PySem PySem.Spec PyProof.Rows L2 HX HB HG HU HH HD HS HV HQ HK HN TL HM
/-! ### a calc -/
theorem kindD_ok2 {k : Str} (h : k = "sum" ∨ k = "minus" ∨ k = "less") : isKindD (.str k) = true := decide_eq_true h
structure Clc (x : PyData) : Prop where
  cal : isCalcD x = true
  good : Good x 2
  tup : tupD x = true
  wt : wtD x ≤ 130
theorem low_kind {k : Str} (h : k = "sum" ∨ k = "minus" ∨ k = "less") : Low k ∧ k.length ≤ 5 := by
  rcases h with rfl | rfl | rfl
  · exact ⟨str_lit (by decide +kernel), by decide⟩
  · exact ⟨str_lit (by decide +kernel), by decide⟩
  · exact ⟨str_lit (by decide +kernel), by decide⟩
theorem Clc.int {i : Int} (h : i.natAbs ≤ 10 ^ 41) : Clc (.int i) := ⟨rfl, Good.int i 2, rfl, by rw [wt_int h]; decide⟩
theorem Clc.str {z : Str} (h : isNameL z = true) : Clc (.str z) := ⟨h, Good.str (Low.of h) 2, rfl, Nat.le_trans (wt_name h) (by decide)⟩
/-- a leaf of a calc -/
structure Lf (x : PyData) : Prop where
  cal : isCalcD x = true
  good : Good x 0
  tup : tupD x = true
  wt : wtD x ≤ 20
theorem Lf.int {i : Int} (h : i.natAbs ≤ 10 ^ 41) : Lf (.int i) := ⟨rfl, Good.int i 0, rfl, by rw [wt_int h]; decide⟩
theorem Lf.str {z : Str} (h : isNameL z = true) : Lf (.str z) := ⟨h, Good.str (Low.of h) 0, rfl, Nat.le_trans (wt_name h) (by decide)⟩
theorem calc3 {k : Str} {a b : PyData} {n : Nat} (hk : k = "sum" ∨ k = "minus" ∨ k = "less") (ca : isCalcD a = true) (cb : isCalcD b = true) (ga : Good a n) (gb : Good b n) (ta : tupD a = true) (tb : tupD b = true) : isCalcD (.tuple [.str k, a, b]) = true ∧ Good (.tuple [.str k, a, b]) (n + 1) ∧ tupD (.tuple [.str k, a, b]) = true ∧ wtD (.tuple [.str k, a, b]) ≤ 13 + wtD a + wtD b := by
  refine ⟨?_, ?_, ?_, ?_⟩
  · show (isKindD (.str k) && (isCalcD a && isCalcD b)) = true
    rw [kindD_ok2 hk, ca, cb]
    rfl
  · refine Good.tup (fun x hx => ?_) (by show 3 ≤ 10000; decide)
    simp only [List.mem_cons, List.not_mem_nil, or_false] at hx
    rcases hx with rfl | rfl | rfl
    · exact Good.str (low_kind hk).1 n
    · exact ga
    · exact gb
  · show (true && (tupD a && (tupD b && true))) = true
    rw [ta, tb]
    rfl
  · have := (low_kind hk).2
    show 4 + (k.length + 4 + (wtD a + (wtD b + 0))) ≤ _
    omega
theorem Lf.clc {x : PyData} (l : Lf x) : Clc x := ⟨l.cal, l.good.mono (by decide), l.tup, Nat.le_trans l.wt (by decide)⟩
theorem clc3 {k : Str} {a b : PyData} (hk : k = "sum" ∨ k = "minus" ∨ k = "less") (la : Lf a) (lb : Lf b) : Clc (.tuple [.str k, a, b]) := by
  obtain ⟨h1, h2, h3, h4⟩ := calc3 hk la.cal lb.cal la.good lb.good la.tup lb.tup
  have := la.wt
  have := lb.wt
  exact ⟨h1, h2.mono (by decide), h3, by omega⟩
theorem clc5 {k k2 : Str} {a b d : PyData} (hk : k = "sum" ∨ k = "minus" ∨ k = "less") (hk2 : k2 = "sum" ∨ k2 = "minus" ∨ k2 = "less") (la : Lf a) (lb : Lf b) (ld : Lf d) : Clc (.tuple [.str k, a, .tuple [.str k2, b, d]]) := by
  obtain ⟨h1, h2, h3, h4⟩ := calc3 hk2 lb.cal ld.cal lb.good ld.good lb.tup ld.tup
  obtain ⟨g1, g2, g3, g4⟩ := calc3 hk la.cal h1 (la.good.mono (Nat.zero_le _)) h2 la.tup h3
  have := la.wt
  have := lb.wt
  have := ld.wt
  exact ⟨g1, g2, g3, by omega⟩
/-! ### rows, one by one -/
section
variable {cn ln hn : List Str} {ps ps' : List (Str × Str)} {deep : Nat} {oft more : Int} {nm z : Str} {m m2 k : Nat}
theorem lit_low {z : Str} {ks : List Str} (h : kindsOf z = some ks) : Low z := by
  have : ∀ q ∈ partsL, (decide (q.1.length ≤ 20) && q.1.cps.toList.all isLow) = true := by decide +kernel
  exact str_lit (this _ (kindsOf_mem h))
theorem ar_same (h1 : z ≠ "start") (h2 : z ≠ "nest") (h3 : z ≠ "within") (nm : Str) (ps : List (Str × Str)) : aroundP z nm nm ps = ps := by
  unfold aroundP
  rw [if_neg h1, if_neg (fun h => h.elim h2 h3)]
/-- a row of any sort -/
theorem row_any {ks : List Str} {ds : List PyData} (hk : kindsOf z = some ks) (h : Parts cn ln hn ps ps' deep more nm ks ds k) (ha : aroundP z nm nm ps = ps') (ho : oft + (if z = "often" then 1 else 0) = more) (hm : more ≤ 3) (hd : deep ≤ 9) : Row1 cn ln hn ps deep oft (.tuple (.str z :: ds)) (1 + k) := by
  refine row_done hk (lit_low hk) (kinds_word hk) h ?_ ?_ hm hd
  · rw [ar_of hk h.len fun q hq => (h.each q hq).2.2.2]
    exact ha
  · rw [← ho]
    rfl
/-- parts of a row, at most three -/
theorem Parts.one {k1 : Str} {d1 : PyData} (p1 : PartOk cn ln hn ps ps' deep more nm k1 d1 m) : Parts cn ln hn ps ps' deep more nm [k1] [d1] m := by
  have := Parts.nil.snoc p1
  rw [Nat.zero_add] at this
  exact this
theorem Parts.two {k1 k2 : Str} {d1 d2 : PyData} (p1 : PartOk cn ln hn ps ps' deep more nm k1 d1 m) (p2 : PartOk cn ln hn ps ps' deep more nm k2 d2 m2) : Parts cn ln hn ps ps' deep more nm [k1, k2] [d1, d2] (m + m2) := (Parts.one p1).snoc p2
theorem Parts.three {k1 k2 k3 : Str} {d1 d2 d3 : PyData} {m3 : Nat} (p1 : PartOk cn ln hn ps ps' deep more nm k1 d1 m) (p2 : PartOk cn ln hn ps ps' deep more nm k2 d2 m2) (p3 : PartOk cn ln hn ps ps' deep more nm k3 d3 m3) : Parts cn ln hn ps ps' deep more nm [k1, k2, k3] [d1, d2, d3] (m + m2 + m3) := (Parts.two p1 p2).snoc p3
/-- leaves -/
theorem lf_name (h : isNameL z = true) {nm : Str} : PartOk cn ln hn ps ps' deep more nm "name" (.str z) 0 := PartOk.leaf (part_name h) (Good.str (Low.of h) 2) rfl (Nat.le_trans (wt_name h) (by decide)) (by decide +kernel) (fun h => by rcases h with h | h | h <;> exact absurd h (by decide +kernel))
theorem lf_calc {x : PyData} (h : Clc x) {nm : Str} : PartOk cn ln hn ps ps' deep more nm "calc" x 0 := PartOk.leaf (show isPartD cn ln hn ps "calc" x = true from h.cal) h.good h.tup h.wt (by decide +kernel) (fun h => by rcases h with h | h | h <;> exact absurd h (by decide +kernel))
theorem lf_cell (h : isNameL z = true) (hm : z ∈ cn) {nm : Str} : PartOk cn ln hn ps ps' deep more nm "cell" (.str z) 0 := PartOk.leaf (part_cell h hm) (Good.str (Low.of h) 2) rfl (Nat.le_trans (wt_name h) (by decide)) (by decide +kernel) (fun h => by rcases h with h | h | h <;> exact absurd h (by decide +kernel))
theorem lf_lock (h : isNameL z = true) (hm : z ∈ ln) {nm : Str} : PartOk cn ln hn ps ps' deep more nm "lock" (.str z) 0 := PartOk.leaf (part_lock h hm) (Good.str (Low.of h) 2) rfl (Nat.le_trans (wt_name h) (by decide)) (by decide +kernel) (fun h => by rcases h with h | h | h <;> exact absurd h (by decide +kernel))
theorem lf_lane (h : isNameL z = true) (hm : z ∈ hn) {nm : Str} : PartOk cn ln hn ps ps' deep more nm "channel" (.str z) 0 := PartOk.leaf (part_lane h hm) (Good.str (Low.of h) 2) rfl (Nat.le_trans (wt_name h) (by decide)) (by decide +kernel) (fun h => by rcases h with h | h | h <;> exact absurd h (by decide +kernel))
theorem lf_rng {kind : Str} {lo hi i : Int} (hr : rangeOf kind = some (lo, hi)) (h1 : kind ≠ "calc") (h2 : kind ≠ "body") (hs : ¬ (kind = "scope" ∨ kind = "home" ∨ kind = "entered")) (h3 : lo ≤ i) (h4 : i ≤ hi) (hb : i.natAbs ≤ 100) {nm : Str} : PartOk cn ln hn ps ps' deep more nm kind (.int i) 0 := PartOk.leaf (part_rng hr h1 h2 h3 h4) (Good.int i 2) rfl (by rw [wt_int (Nat.le_trans hb (by decide))]; decide) h2 (fun h => absurd h hs)
theorem lf_scope (h : isNameL nm = true) (hz : nm ∉ ps.map (·.1)) : PartOk cn ln hn ps ps' deep more nm "scope" (.str nm) 0 := PartOk.leaf (part_sc h hz) (Good.str (Low.of h) 2) rfl (Nat.le_trans (wt_name h) (by decide)) (by decide +kernel) (fun _ => rfl)
theorem lf_home (h : PsOk ps) (hm : (nm, ("nest" : Str)) ∈ ps) : PartOk cn ln hn ps ps' deep more nm "home" (.str nm) 0 := PartOk.leaf (part_hm h hm) (Good.str (Low.of (h.names _ hm)) 2) rfl (Nat.le_trans (wt_name (h.names _ hm)) (by decide)) (by decide +kernel) (fun _ => rfl)
theorem lf_off (h : PsOk ps) (hm : nm ∈ ps.map (·.1)) : PartOk cn ln hn ps ps' deep more nm "entered" (.str nm) 0 := by
  have hn : isNameL nm = true := by
    obtain ⟨q, hq, rfl⟩ := List.mem_map.mp hm
    exact h.names _ hq
  exact PartOk.leaf (part_of h hm) (Good.str (Low.of hn) 2) rfl (Nat.le_trans (wt_name hn) (by decide)) (by decide +kernel) (fun _ => rfl)
theorem lf_body {rows : List PyData} (h : Rows cn ln hn ps' (deep + 1) more rows m) (hl : rows.length ≤ 1000) (hd : deep ≤ 8) {nm : Str} : PartOk cn ln hn ps ps' deep more nm "body" (.tuple rows) m := by
  refine ⟨part_tup, ?_, h.tup, fun _ => ⟨rows, rfl, h⟩, fun e => absurd rfl e, (fun h => by rcases h with h | h | h <;> exact absurd h (by decide +kernel)), ?_⟩
  · have := h.good1 (by omega)
    exact this.mono (by omega)
  · have := h.wt
    show 4 + wtAll rows ≤ 130 + 410 * m
    omega
end
/-! ### what is around -/
/-- nests and withins: names and words -/
def psOf (ar : List (Str × Str)) : List (Str × Str) := (ar.filter fun p : Str × Str => decide (p.1 = ("nest" : Str) ∨ p.1 = ("within" : Str))).map fun p => (p.2, p.1)
def oftOf (ar : List (Str × Str)) : Nat := ar.countP fun p : Str × Str => decide (p = (("often" : Str), ("" : Str)))
structure ArOk (ar : List (Str × Str)) : Prop where
  ps : PsOk (psOf ar)
  low : ∀ p ∈ ar, Low p.1 ∧ Low p.2
  few : ar.length ≤ 20
theorem psOf_app (a b : List (Str × Str)) : psOf (a ++ b) = psOf a ++ psOf b := by
  unfold psOf
  rw [List.filter_append, List.map_append]
theorem psOf_nil : psOf [] = [] := rfl
theorem psOf_in {w nm : Str} (h : w = "nest" ∨ w = "within") : psOf [(w, nm)] = [(nm, w)] := by
  unfold psOf
  rw [List.filter_cons_of_pos (by simpa using h)]
  rfl
theorem psOf_out {w nm : Str} (h : ¬ (w = "nest" ∨ w = "within")) : psOf [(w, nm)] = [] := by
  unfold psOf
  rw [List.filter_cons_of_neg (by simpa using h)]
  rfl
theorem psOf_mem {ar : List (Str × Str)} {q : Str × Str} : q ∈ psOf ar ↔ (q.2, q.1) ∈ ar ∧ (q.2 = "nest" ∨ q.2 = "within") := by
  unfold psOf
  constructor
  · intro h
    obtain ⟨p, hp, rfl⟩ := List.mem_map.mp h
    have := List.mem_filter.mp hp
    exact ⟨this.1, of_decide_eq_true this.2⟩
  · rintro ⟨h1, h2⟩
    exact List.mem_map.mpr ⟨(q.2, q.1), List.mem_filter.mpr ⟨h1, decide_eq_true h2⟩, rfl⟩
theorem psOf_free {ar : List (Str × Str)} {nm : Str} (h1 : (("nest" : Str), nm) ∉ ar) (h2 : (("within" : Str), nm) ∉ ar) : nm ∉ (psOf ar).map (·.1) := by
  intro h
  obtain ⟨q, hq, rfl⟩ := List.mem_map.mp h
  obtain ⟨h3, h4⟩ := psOf_mem.mp hq
  rcases h4 with e | e
  · rw [e] at h3; exact h1 h3
  · rw [e] at h3; exact h2 h3
/-- up to a nest: as the program tells it -/
theorem psOf_take {ar : List (Str × Str)} (ok : ArOk ar) {i : Nat} (hi : i < ar.length) (hn : ar[i].1 = "nest") : psOf (ar.take (i + 1)) = (psOf ar).take (((psOf ar).map (·.1)).idxOf ar[i].2 + 1) := by
  have e1 : ar.take (i + 1) = ar.take i ++ [ar[i]] := by rw [List.take_add_one, List.getElem?_eq_getElem hi]; rfl
  have e2 : ar = ar.take i ++ ([ar[i]] ++ ar.drop (i + 1)) := by
    rw [List.singleton_append, ← List.drop_eq_getElem_cons hi, List.take_append_drop]
  have e3 : psOf [ar[i]] = [(ar[i].2, ar[i].1)] := psOf_in (.inl hn)
  have e4 : psOf ar = psOf (ar.take i) ++ ([(ar[i].2, ar[i].1)] ++ psOf (ar.drop (i + 1))) := by
    have := congrArg psOf e2
    rw [psOf_app, psOf_app, e3] at this
    exact this
  rw [e1, psOf_app, e3]
  have nd := ok.ps.nd
  rw [e4] at nd ⊢
  rw [List.map_append, List.nodup_append] at nd
  have hni : ar[i].2 ∉ (psOf (ar.take i)).map (·.1) := fun h => nd.2.2 _ h _ (List.mem_cons_self ..) rfl
  have ei : ((psOf (ar.take i) ++ ([(ar[i].2, ar[i].1)] ++ psOf (ar.drop (i + 1)))).map (·.1)).idxOf ar[i].2 = (psOf (ar.take i)).length := by
    rw [List.map_append, List.idxOf_append, if_neg hni]
    show List.idxOf ar[i].2 (ar[i].2 :: _) + _ = _
    rw [List.idxOf_cons_self, List.length_map, Nat.zero_add]
  rw [ei, List.take_append, List.take_of_length_le (Nat.le_succ _), Nat.add_sub_cancel_left]
  rfl
theorem oftOf_app (a b : List (Str × Str)) : oftOf (a ++ b) = oftOf a + oftOf b := List.countP_append ..
theorem ArOk.in_ {ar : List (Str × Str)} (ok : ArOk ar) {w nm : Str} (hw : w = "nest" ∨ w = "within") (hn : isNameL nm = true) (h1 : (("nest" : Str), nm) ∉ ar) (h2 : (("within" : Str), nm) ∉ ar) (l : ar.length ≤ 19) (l9 : (psOf ar).length ≤ 9) : ArOk (ar ++ [(w, nm)]) := by
  have e : psOf (ar ++ [(w, nm)]) = psOf ar ++ [(nm, w)] := by rw [psOf_app, psOf_in hw]
  refine ⟨?_, ?_, by rw [List.length_append, List.length_singleton]; omega⟩
  · rw [e]
    refine ⟨?_, ?_, ?_, by rw [List.length_append, List.length_singleton]; omega⟩
    · intro p hp
      rcases List.mem_append.mp hp with hp | hp
      · exact ok.ps.names p hp
      · rw [List.mem_singleton.mp hp]; exact hn
    · intro p hp
      rcases List.mem_append.mp hp with hp | hp
      · exact ok.ps.words p hp
      · rw [List.mem_singleton.mp hp]; exact hw
    · rw [List.map_append, List.nodup_append]
      refine ⟨ok.ps.nd, by simp, fun a ha b hb e => ?_⟩
      have hb : b = nm := List.mem_singleton.mp hb
      rw [e, hb] at ha
      exact psOf_free h1 h2 ha
  · intro p hp
    rcases List.mem_append.mp hp with hp | hp
    · exact ok.low p hp
    · rw [List.mem_singleton.mp hp]
      refine ⟨?_, Low.of hn⟩
      show Low w
      rcases hw with rfl | rfl <;> exact str_lit (by decide +kernel)
theorem ArOk.out {ar : List (Str × Str)} (ok : ArOk ar) {w nm : Str} (hw : ¬ (w = "nest" ∨ w = "within")) (h1 : Low w) (h2 : Low nm) (l : ar.length ≤ 19) : ArOk (ar ++ [(w, nm)]) ∧ psOf (ar ++ [(w, nm)]) = psOf ar := by
  have e : psOf (ar ++ [(w, nm)]) = psOf ar := by rw [psOf_app, psOf_out hw, List.append_nil]
  refine ⟨⟨by rw [e]; exact ok.ps, fun p hp => ?_, by rw [List.length_append, List.length_singleton]; omega⟩, e⟩
  rcases List.mem_append.mp hp with hp | hp
  · exact ok.low p hp
  · rw [List.mem_singleton.mp hp]; exact ⟨h1, h2⟩
theorem ArOk.sub {ar br : List (Str × Str)} (ok : ArOk ar) (s : br.Sublist ar) : ArOk br :=
  ⟨ok.ps.sub ((s.filter _).map _), fun p hp => ok.low p (s.subset hp), Nat.le_trans s.length_le ok.few⟩
theorem ArOk.good {ar : List (Str × Str)} (ok : ArOk ar) : Good (.list (ar.map pairD)) 2 := Good.lst (n := 1) (fun x hx => by
  obtain ⟨p, hp, rfl⟩ := List.mem_map.mp hx
  obtain ⟨h1, h2⟩ := ok.low p hp
  refine Good.tup (fun y hy => ?_) (by show 2 ≤ 10000; decide)
  rcases List.mem_cons.mp hy with rfl | hy
  · exact Good.str h1 0
  · rw [List.mem_singleton.mp hy]; exact Good.str h2 0) (by rw [List.length_map]; have := ok.few; omega)
theorem pair_good {w nm : Str} (h1 : Low w) (h2 : Low nm) : Good (pairD (w, nm)) 1 := by
  refine Good.tup (fun y hy => ?_) (by show 2 ≤ 10000; decide)
  rcases List.mem_cons.mp hy with rfl | hy
  · exact Good.str h1 0
  · rw [List.mem_singleton.mp hy]; exact Good.str h2 0
theorem eqv_pair (p q : Str × Str) : PyData.eqv (pairD p) (pairD q) = decide (p = q) := by
  have e : PyData.eqv (pairD p) (pairD q) = ((p.1 == q.1) && ((p.2 == q.2) && true)) := rfl
  rw [e]
  by_cases h : p = q
  · subst h; simp
  · rw [decide_eq_false h, Bool.and_true]
    by_cases h1 : p.1 = q.1
    · have h2 : p.2 ≠ q.2 := fun e => h (Prod.ext h1 e)
      rw [beq_eq_false_iff_ne.mpr h2, Bool.and_false]
    · rw [beq_eq_false_iff_ne.mpr h1, Bool.false_and]
theorem any_pair (ar : List (Str × Str)) (q : Str × Str) : ((ar.map pairD).any fun z => PyData.eqv z (pairD q)) = decide (q ∈ ar) := by
  rw [List.any_map]
  induction ar with
  | nil => simp
  | cons p ar ih =>
    rw [List.any_cons, ih]
    show (PyData.eqv (pairD p) (pairD q) || _) = _
    rw [eqv_pair, ← Bool.decide_or]
    exact decide_eq_decide.mpr ⟨fun h => by rcases h with h | h; · rw [h]; exact List.mem_cons_self ..
                                            · exact List.mem_cons_of_mem _ h, fun h => by rcases List.mem_cons.mp h with h | h; · exact .inl h.symm
                                                                                          · exact .inr h⟩
theorem count_pair (ar : List (Str × Str)) (q : Str × Str) : (ar.map pairD).countP (fun z => PyData.eqv z (pairD q)) = ar.countP fun p => decide (p = q) := by
  rw [List.countP_map]
  congr 1
  funext p
  exact eqv_pair p q
/-! ### rows with bodies -/
section
variable {cn ln hn : List Str} {ps : List (Str × Str)} {deep : Nat} {oft : Int} {nm : Str} {m m2 : Nat} {rows rows2 : List PyData} {x : PyData} {i : Int}
theorem row_start (ok : PsOk ps) (hm : (nm, ("nest" : Str)) ∈ ps) (h : Rows cn ln hn (ps.take ((ps.map (·.1)).idxOf nm + 1)) (deep + 1) oft rows m) (hl : rows.length ≤ 1000) (hd : deep ≤ 8) (ho : oft ≤ 2) : Row1 cn ln hn ps deep oft (.tuple [.str "start", .str nm, .tuple rows]) (1 + m) := by
  have hz : kindsOf "start" = some (["home", "body"] : List Str) := by decide +kernel
  have := row_any (cn := cn) (ln := ln) (hn := hn) (oft := oft) hz (Parts.two (lf_home (deep := deep) (more := oft) ok hm) (lf_body h (by omega) hd)) (by unfold aroundP; rw [if_pos rfl]) (by rw [if_neg (by decide), Int.add_zero]) (by omega) (by omega)
  rw [Nat.zero_add] at this
  exact this
theorem row_nest (hn' : isNameL nm = true) (hz : nm ∉ ps.map (·.1)) (h : Rows cn ln hn (ps ++ [(nm, ("nest" : Str))]) (deep + 1) oft rows m) (hl : rows.length ≤ 1000) (hd : deep ≤ 8) (ho : oft ≤ 2) : Row1 cn ln hn ps deep oft (.tuple [.str "nest", .str nm, .tuple rows]) (1 + m) := by
  have hk : kindsOf "nest" = some (["scope", "body"] : List Str) := by decide +kernel
  have := row_any (cn := cn) (ln := ln) (hn := hn) (oft := oft) hk (Parts.two (lf_scope (deep := deep) (more := oft) hn' hz) (lf_body h (by omega) hd)) (by unfold aroundP; rw [if_neg (by decide), if_pos (by decide)]) (by rw [if_neg (by decide), Int.add_zero]) (by omega) (by omega)
  rw [Nat.zero_add] at this
  exact this
theorem row_within (hi : 1 ≤ i ∧ i ≤ 4) (hn' : isNameL nm = true) (hz : nm ∉ ps.map (·.1)) (h : Rows cn ln hn (ps ++ [(nm, ("within" : Str))]) (deep + 1) oft rows m) (hl : rows.length ≤ 1000) (hd : deep ≤ 8) (ho : oft ≤ 2) : Row1 cn ln hn ps deep oft (.tuple [.str "within", .int i, .str nm, .tuple rows]) (1 + m) := by
  have hk : kindsOf "within" = some (["span", "scope", "body"] : List Str) := by decide +kernel
  have hr : rangeOf "span" = some (1, 9) := by decide +kernel
  have := row_any (cn := cn) (ln := ln) (hn := hn) (oft := oft) hk (Parts.three (lf_rng (deep := deep) (more := oft) (i := i) hr (by decide) (by decide) (by decide) hi.1 (by omega) (by omega)) (lf_scope hn' hz) (lf_body h (by omega) hd)) (by unfold aroundP; rw [if_neg (by decide), if_pos (by decide)]) (by rw [if_neg (by decide), Int.add_zero]) (by omega) (by omega)
  rw [Nat.zero_add] at this
  exact this
theorem row_hold (hn' : isNameL nm = true) (hm : nm ∈ ln) (h : Rows cn ln hn ps (deep + 1) oft rows m) (hl : rows.length ≤ 1000) (hd : deep ≤ 8) (ho : oft ≤ 2) : Row1 cn ln hn ps deep oft (.tuple [.str "hold", .str nm, .tuple rows]) (1 + m) := by
  have hk : kindsOf "hold" = some (["lock", "body"] : List Str) := by decide +kernel
  have := row_any (cn := cn) (ln := ln) (hn := hn) (oft := oft) hk (Parts.two (lf_lock (deep := deep) (more := oft) (nm := nm) hn' hm) (lf_body h (by omega) hd)) (ar_same (by decide) (by decide) (by decide) nm ps) (by rw [if_neg (by decide), Int.add_zero]) (by omega) (by omega)
  rw [Nat.zero_add] at this
  exact this
theorem row_often (hi : 0 ≤ i ∧ i ≤ 3) (h : Rows cn ln hn ps (deep + 1) (oft + 1) rows m) (hl : rows.length ≤ 1000) (hd : deep ≤ 8) (ho : oft ≤ 2) : Row1 cn ln hn ps deep oft (.tuple [.str "often", .int i, .tuple rows]) (1 + m) := by
  have hk : kindsOf "often" = some (["times", "body"] : List Str) := by decide +kernel
  have hr : rangeOf "times" = some (0, 3) := by decide +kernel
  have := row_any (cn := cn) (ln := ln) (hn := hn) (oft := oft) hk (Parts.two (lf_rng (deep := deep) (more := oft + 1) (i := i) (nm := "") hr (by decide) (by decide) (by decide) hi.1 hi.2 (by omega)) (lf_body h (by omega) hd)) (ar_same (by decide) (by decide) (by decide) "" ps) (by rw [if_pos rfl]) (by omega) (by omega)
  rw [Nat.zero_add] at this
  exact this
theorem row_shield (h : Rows cn ln hn ps (deep + 1) oft rows m) (hl : rows.length ≤ 1000) (hd : deep ≤ 8) (ho : oft ≤ 2) : Row1 cn ln hn ps deep oft (.tuple [.str "shield", .tuple rows]) (1 + m) := by
  have hk : kindsOf "shield" = some (["body"] : List Str) := by decide +kernel
  exact row_any (cn := cn) (ln := ln) (hn := hn) (oft := oft) hk (Parts.one (lf_body (nm := "") h (by omega) hd)) (ar_same (by decide) (by decide) (by decide) "" ps) (by rw [if_neg (by decide), Int.add_zero]) (by omega) (by omega)
theorem row_try (h : Rows cn ln hn ps (deep + 1) oft rows m) (h2 : Rows cn ln hn ps (deep + 1) oft rows2 m2) (hl : rows.length ≤ 1000) (hl2 : rows2.length ≤ 1000) (hd : deep ≤ 8) (ho : oft ≤ 2) : Row1 cn ln hn ps deep oft (.tuple [.str "try", .tuple rows, .tuple rows2]) (1 + (m + m2)) := by
  have hk : kindsOf "try" = some (["body", "body"] : List Str) := by decide +kernel
  exact row_any (cn := cn) (ln := ln) (hn := hn) (oft := oft) hk (Parts.two (lf_body (nm := "") h (by omega) hd) (lf_body h2 (by omega) hd)) (ar_same (by decide) (by decide) (by decide) "" ps) (by rw [if_neg (by decide), Int.add_zero]) (by omega) (by omega)
theorem row_if (hx : Clc x) (h : Rows cn ln hn ps (deep + 1) oft rows m) (h2 : Rows cn ln hn ps (deep + 1) oft rows2 m2) (hl : rows.length ≤ 1000) (hl2 : rows2.length ≤ 1000) (hd : deep ≤ 8) (ho : oft ≤ 2) : Row1 cn ln hn ps deep oft (.tuple [.str "if", x, .tuple rows, .tuple rows2]) (1 + (m + m2)) := by
  have hk : kindsOf "if" = some (["calc", "body", "body"] : List Str) := by decide +kernel
  have := row_any (cn := cn) (ln := ln) (hn := hn) (oft := oft) hk (Parts.three (lf_calc (nm := "") hx) (lf_body h (by omega) hd) (lf_body h2 (by omega) hd)) (ar_same (by decide) (by decide) (by decide) "" ps) (by rw [if_neg (by decide), Int.add_zero]) (by omega) (by omega)
  rw [Nat.zero_add] at this
  exact this
theorem row_catch (hn' : isNameL nm = true) (h : Rows cn ln hn ps (deep + 1) oft rows m) (h2 : Rows cn ln hn ps (deep + 1) oft rows2 m2) (hl : rows.length ≤ 1000) (hl2 : rows2.length ≤ 1000) (hd : deep ≤ 8) (ho : oft ≤ 2) : Row1 cn ln hn ps deep oft (.tuple [.str "catch", .tuple rows, .str nm, .tuple rows2]) (1 + (m + m2)) := by
  have hk : kindsOf "catch" = some (["body", "name", "body"] : List Str) := by decide +kernel
  have := row_any (cn := cn) (ln := ln) (hn := hn) (oft := oft) hk (Parts.three (lf_body (nm := "") h (by omega) hd) (lf_name hn') (lf_body h2 (by omega) hd)) (ar_same (by decide) (by decide) (by decide) "" ps) (by rw [if_neg (by decide), Int.add_zero]) (by omega) (by omega)
  rw [Nat.add_zero] at this
  exact this
end
/-! ### rows without bodies -/
section
variable {cn ln hn : List Str} {ps : List (Str × Str)} {deep : Nat} {oft : Int} {nm : Str} {x : PyData} {i : Int} {y z : Str}
theorem row_put (h : isNameL y = true) (hx : Clc x) (hd : deep ≤ 9) (ho : oft ≤ 3) : Row1 cn ln hn ps deep oft (.tuple (.str "put" :: [.str y, x])) 1 := by
  have hk : kindsOf "put" = some (["name", "calc"] : List Str) := by decide +kernel
  exact row_any (cn := cn) (ln := ln) (hn := hn) (oft := oft) (deep := deep) (more := oft) (nm := "") hk (Parts.two (lf_name h) (lf_calc hx)) (ar_same (by decide) (by decide) (by decide) "" ps) (by rw [if_neg (by decide), Int.add_zero]) (by omega) (by omega)
theorem row_read (h : isNameL y = true) (h2 : isNameL z = true) (hm : z ∈ cn) (hd : deep ≤ 9) (ho : oft ≤ 3) : Row1 cn ln hn ps deep oft (.tuple (.str "read" :: [.str y, .str z])) 1 := by
  have hk : kindsOf "read" = some (["name", "cell"] : List Str) := by decide +kernel
  exact row_any (cn := cn) (ln := ln) (hn := hn) (oft := oft) (deep := deep) (more := oft) (nm := "") hk (Parts.two (lf_name h) (lf_cell h2 hm)) (ar_same (by decide) (by decide) (by decide) "" ps) (by rw [if_neg (by decide), Int.add_zero]) (by omega) (by omega)
theorem row_take (h : isNameL y = true) (h2 : isNameL z = true) (hm : z ∈ hn) (hd : deep ≤ 9) (ho : oft ≤ 3) : Row1 cn ln hn ps deep oft (.tuple (.str "take" :: [.str y, .str z])) 1 := by
  have hk : kindsOf "take" = some (["name", "channel"] : List Str) := by decide +kernel
  exact row_any (cn := cn) (ln := ln) (hn := hn) (oft := oft) (deep := deep) (more := oft) (nm := "") hk (Parts.two (lf_name h) (lf_lane h2 hm)) (ar_same (by decide) (by decide) (by decide) "" ps) (by rw [if_neg (by decide), Int.add_zero]) (by omega) (by omega)
theorem row_send (h2 : isNameL z = true) (hm : z ∈ hn) (hx : Clc x) (hd : deep ≤ 9) (ho : oft ≤ 3) : Row1 cn ln hn ps deep oft (.tuple (.str "send" :: [.str z, x])) 1 := by
  have hk : kindsOf "send" = some (["channel", "calc"] : List Str) := by decide +kernel
  exact row_any (cn := cn) (ln := ln) (hn := hn) (oft := oft) (deep := deep) (more := oft) (nm := "") hk (Parts.two (lf_lane h2 hm) (lf_calc hx)) (ar_same (by decide) (by decide) (by decide) "" ps) (by rw [if_neg (by decide), Int.add_zero]) (by omega) (by omega)
theorem row_write (h2 : isNameL z = true) (hm : z ∈ cn) (hx : Clc x) (hd : deep ≤ 9) (ho : oft ≤ 3) : Row1 cn ln hn ps deep oft (.tuple (.str "write" :: [.str z, x])) 1 := by
  have hk : kindsOf "write" = some (["cell", "calc"] : List Str) := by decide +kernel
  exact row_any (cn := cn) (ln := ln) (hn := hn) (oft := oft) (deep := deep) (more := oft) (nm := "") hk (Parts.two (lf_cell h2 hm) (lf_calc hx)) (ar_same (by decide) (by decide) (by decide) "" ps) (by rw [if_neg (by decide), Int.add_zero]) (by omega) (by omega)
theorem row_tell (hx : Clc x) (hd : deep ≤ 9) (ho : oft ≤ 3) : Row1 cn ln hn ps deep oft (.tuple (.str "tell" :: [x])) 1 := by
  have hk : kindsOf "tell" = some (["calc"] : List Str) := by decide +kernel
  exact row_any (cn := cn) (ln := ln) (hn := hn) (oft := oft) (deep := deep) (more := oft) (nm := "") hk (Parts.one (lf_calc hx)) (ar_same (by decide) (by decide) (by decide) "" ps) (by rw [if_neg (by decide), Int.add_zero]) (by omega) (by omega)
theorem row_fail (h : isNameL y = true) (hd : deep ≤ 9) (ho : oft ≤ 3) : Row1 cn ln hn ps deep oft (.tuple (.str "fail" :: [.str y])) 1 := by
  have hk : kindsOf "fail" = some (["name"] : List Str) := by decide +kernel
  exact row_any (cn := cn) (ln := ln) (hn := hn) (oft := oft) (deep := deep) (more := oft) (nm := "") hk (Parts.one (lf_name h)) (ar_same (by decide) (by decide) (by decide) "" ps) (by rw [if_neg (by decide), Int.add_zero]) (by omega) (by omega)
theorem row_rest (hi : 0 ≤ i ∧ i ≤ 9) (hd : deep ≤ 9) (ho : oft ≤ 3) : Row1 cn ln hn ps deep oft (.tuple (.str "rest" :: [.int i])) 1 := by
  have hk : kindsOf "rest" = some (["rest"] : List Str) := by decide +kernel
  have hr : rangeOf "rest" = some (0, 9) := by decide +kernel
  exact row_any (cn := cn) (ln := ln) (hn := hn) (oft := oft) (deep := deep) (more := oft) (nm := "") hk (Parts.one (lf_rng hr (by decide) (by decide) (by decide) hi.1 hi.2 (by omega))) (ar_same (by decide) (by decide) (by decide) "" ps) (by rw [if_neg (by decide), Int.add_zero]) (by omega) (by omega)
theorem row_off (ok : PsOk ps) (hm : nm ∈ ps.map (·.1)) (hd : deep ≤ 9) (ho : oft ≤ 3) : Row1 cn ln hn ps deep oft (.tuple (.str "off" :: [.str nm])) 1 := by
  have hk : kindsOf "off" = some (["entered"] : List Str) := by decide +kernel
  exact row_any (cn := cn) (ln := ln) (hn := hn) (oft := oft) (deep := deep) (more := oft) (nm := nm) hk (Parts.one (lf_off ok hm)) (ar_same (by decide) (by decide) (by decide) nm ps) (by rw [if_neg (by decide), Int.add_zero]) (by omega) (by omega)
end
/-! ### rows, by their shapes -/
inductive Do (C : PyData → Prop) (W cn ln hn : List Str) : Nat → PyData → Prop
  | put {n : Nat} {nm : Str} {c : PyData} : isNameL nm = true → C c → Do C W cn ln hn (n + 1) (.tuple [.str "put", .str nm, c])
  | read {n : Nat} {nm z : Str} : isNameL nm = true → z ∈ cn → Do C W cn ln hn (n + 1) (.tuple [.str "read", .str nm, .str z])
  | write {n : Nat} {z : Str} {c : PyData} : z ∈ cn → C c → Do C W cn ln hn (n + 1) (.tuple [.str "write", .str z, c])
  | tell {n : Nat} {c : PyData} : C c → Do C W cn ln hn (n + 1) (.tuple [.str "tell", c])
  | send {n : Nat} {z : Str} {c : PyData} : ("send" : Str) ∈ W → z ∈ hn → C c → Do C W cn ln hn (n + 1) (.tuple [.str "send", .str z, c])
  | take {n : Nat} {nm z : Str} : ("take" : Str) ∈ W → isNameL nm = true → z ∈ hn → Do C W cn ln hn (n + 1) (.tuple [.str "take", .str nm, .str z])
  | rest {n : Nat} {i : Int} : 0 ≤ i → i ≤ 9 → Do C W cn ln hn (n + 1) (.tuple [.str "rest", .int i])
  | off {n : Nat} {nm : Str} : ("off" : Str) ∈ W → isNameL nm = true → Do C W cn ln hn (n + 1) (.tuple [.str "off", .str nm])
  | fail {n : Nat} {nm : Str} : isNameL nm = true → Do C W cn ln hn (n + 1) (.tuple [.str "fail", .str nm])
  | hold {n : Nat} {nm : Str} {rows : List PyData} : nm ∈ ln → (∀ x ∈ rows, Do C W cn ln hn n x) → Do C W cn ln hn (n + 1) (.tuple [.str "hold", .str nm, .tuple rows])
  | nest {n : Nat} {nm : Str} {rows : List PyData} : isNameL nm = true → (∀ x ∈ rows, Do C W cn ln hn n x) → Do C W cn ln hn (n + 1) (.tuple [.str "nest", .str nm, .tuple rows])
  | within {n : Nat} {i : Int} {nm : Str} {rows : List PyData} : ("within" : Str) ∈ W → 1 ≤ i → i ≤ 9 → isNameL nm = true → (∀ x ∈ rows, Do C W cn ln hn n x) → Do C W cn ln hn (n + 1) (.tuple [.str "within", .int i, .str nm, .tuple rows])
  | start {n : Nat} {nm : Str} {rows : List PyData} : ("start" : Str) ∈ W → isNameL nm = true → (∀ x ∈ rows, Do C W cn ln hn n x) → Do C W cn ln hn (n + 1) (.tuple [.str "start", .str nm, .tuple rows])
  | shield {n : Nat} {rows : List PyData} : (∀ x ∈ rows, Do C W cn ln hn n x) → Do C W cn ln hn (n + 1) (.tuple [.str "shield", .tuple rows])
  | try_ {n : Nat} {rows rows2 : List PyData} : (∀ x ∈ rows, Do C W cn ln hn n x) → (∀ x ∈ rows2, Do C W cn ln hn n x) → Do C W cn ln hn (n + 1) (.tuple [.str "try", .tuple rows, .tuple rows2])
  | catch_ {n : Nat} {nm : Str} {rows rows2 : List PyData} : isNameL nm = true → (∀ x ∈ rows, Do C W cn ln hn n x) → (∀ x ∈ rows2, Do C W cn ln hn n x) → Do C W cn ln hn (n + 1) (.tuple [.str "catch", .tuple rows, .str nm, .tuple rows2])
  | if_ {n : Nat} {c : PyData} {rows rows2 : List PyData} : C c → (∀ x ∈ rows, Do C W cn ln hn n x) → (∀ x ∈ rows2, Do C W cn ln hn n x) → Do C W cn ln hn (n + 1) (.tuple [.str "if", c, .tuple rows, .tuple rows2])
  | often {n : Nat} {i : Int} {rows : List PyData} : 0 ≤ i → i ≤ 3 → (∀ x ∈ rows, Do C W cn ln hn n x) → Do C W cn ln hn (n + 1) (.tuple [.str "often", .int i, .tuple rows])
end TP
namespace TP
open PySem PySem.Spec PyProof.Rows L2 HX HB HG HU HH HD HS HV HQ HK HN TL HM HP HR HO HC HF
theorem ty_tup {K : PySem.W.Frag} {H : Hp} {a : Addr} {xs : List V} (h : SqT K H a xs) : TyX K H (.ref a) (.type "tuple") := by
  rcases h with (h | ⟨o, h⟩) | ⟨o, its, n, h, c, _⟩
  · exact .base (.tup h)
  · exact .fTuple h
  · exact .kTuple h c
/-! ### what a calc is worth -/
inductive Kd where
  | sum | minus | less
def Kd.nm : Kd → Str
  | .sum => "sum"
  | .minus => "minus"
  | .less => "less"
theorem Kd.ok (k : Kd) : k.nm = "sum" ∨ k.nm = "minus" ∨ k.nm = "less" := by cases k <;> simp [Kd.nm]
inductive Calc where
  | num (i : Int)
  | word (w : Str)
  | op (k : Kd) (a b : Calc)
def Kd.run : Kd → Int → Int → Int
  | .sum, a, b => a + b
  | .minus, a, b => a - b
  | .less, a, b => if a < b then 1 else 0
def look (ws : List (Str × Int)) (w : Str) : Option Int := (ws.find? fun p => decide (p.1 = w)).map (·.2)
theorem look_val (ws : List (Str × Int)) (w : Str) : valV (dI ws) (Sum.inr w : Key) = (look ws w).map V.int := by
  unfold valV dI look
  rw [List.find?_map]
  have e : ((fun kv : Key × V => decide (kv.1 = Sum.inr w)) ∘ fun p : Str × Int => (Sum.inr p.1, V.int p.2)) = fun p : Str × Int => decide (p.1 = w) := by
    funext p
    exact decide_eq_decide.mpr ⟨fun h => Sum.inr.inj h, fun h => congrArg Sum.inr h⟩
  rw [e]
  cases ws.find? fun p => decide (p.1 = w) <;> rfl
def Calc.worth (ws : List (Str × Int)) : Calc → Int
  | .num i => i
  | .word w => (look ws w).getD 0
  | .op k a b => k.run (a.worth ws) (b.worth ws)
/-- a calc stands there -/
inductive CA (K : PySem.W.Frag) (H : Hp) : Nat → V → Calc → Prop
  | num {n : Nat} (i : Int) : CA K H n (.int i) (.num i)
  | word {n : Nat} (w : Str) : CA K H n (.str w) (.word w)
  | op {n : Nat} {a : Addr} {k : Kd} {y z : V} {c d : Calc} (h : SqT K H a [.str k.nm, y, z]) (hy : CA K H n y c) (hz : CA K H n z d) : CA K H (n + 1) (.ref a) (.op k c d)
theorem CA.same {K : PySem.W.Frag} {H H' : Hp} (e : Same H H') {n : Nat} {v : V} {c : Calc} (h : CA K H n v c) : CA K H' n v c := by
  induction h with
  | num i => exact .num i
  | word w => exact .word w
  | op h hy hz ih1 ih2 => exact .op (e.sqt h) ih1 ih2
def kdOf (k : Str) : Kd := if k = "sum" then .sum else if k = "minus" then .minus else .less
theorem kdOf_nm {k : Str} (h : k = "sum" ∨ k = "minus" ∨ k = "less") : (kdOf k).nm = k := by
  rcases h with rfl | rfl | rfl
  · rfl
  · rfl
  · rfl
def cOf : PyData → Calc
  | .int i => .num i
  | .str z => .word z
  | .tuple [.str k, a, b] => .op (kdOf k) (cOf a) (cOf b)
  | _ => .num 0
theorem ca_of {K : PySem.W.Frag} {H : Hp} : ∀ (n : Nat) (x : PyData) (v : V), x.depth ≤ n → isCalcD x = true → Dp K H v x → CA K H n v (cOf x) := by
  intro n
  induction n with
  | zero =>
    intro x v hx hc hd
    cases x with
    | int i => cases hd; exact .num i
    | str z => cases hd; exact .word z
    | tuple xs => simp [PyData.depth] at hx
    | _ => cases hc
  | succ n ih =>
    intro x v hx hc hd
    cases x with
    | int i => cases hd; exact .num i
    | str z => cases hd; exact .word z
    | tuple xs =>
      match xs, hx, hc, hd with
      | [k, a, b], hx, hc, hd =>
        have hc : (isKindD k && (isCalcD a && isCalcD b)) = true := hc
        simp only [Bool.and_eq_true] at hc
        obtain ⟨h1, h2, h3⟩ := hc
        cases k with
        | str k =>
          have hk := of_decide_eq_true (show decide (k = "sum" ∨ k = "minus" ∨ k = "less") = true from h1)
          have hdep : PyData.depthAll [PyData.str k, a, b] + 1 ≤ n + 1 := hx
          simp only [PyData.depthAll] at hdep
          obtain ⟨p, vs, rfl, hs, hall⟩ := dp_tup hd
          cases hall with
          | cons g1 t =>
            cases t with
            | cons g2 t =>
              cases t with
              | cons g3 t =>
                cases t
                cases g1
                have := CA.op (k := kdOf k) (by rw [kdOf_nm hk]; exact hs) (ih a _ (by omega) h2 g2) (ih b _ (by omega) h3 g3)
                exact this
        | _ => cases h1
      | [], _, hc, _ => cases hc
      | [_], _, hc, _ => cases hc
      | [_, _], _, hc, _ => cases hc
      | _ :: _ :: _ :: _ :: _, _, hc, _ => cases hc
    | _ => cases hc
section
variable {P : Program} {w : World} {K : PySem.W.Frag} {mg : Str → Option Value} {base : Heap}
def spWorth (K : PySem.W.Frag) (n : Nat) : Sp := fun vs H Q _ => ∃ v c d ws, vs = [v, .ref d] ∧ CA K H n v c ∧ H d = some (.dK (dI ws)) ∧ ∀ H', Same H H' → Q (.int (c.worth ws)) H'
theorem ok_worth (T : Tp K w mg) : ∀ n, FnOk P w K mg base CX0 (n + 1) T.f_worth T.fd_worth ["calc", "words"] (spWorth K n) := rec_fn (c := 0) (sp := spWorth K) fun n ih => by
  refine T.D_worth.F.ok sc_worth (fun vs H Q E h => ?_) (fun cdv A outer s H vs Q E hr h => ?_)
  · obtain ⟨v, c, d, ws, rfl, _⟩ := h
    rfl
  · obtain ⟨v, c, d, ws, rfl, hc, hd, q⟩ := h
    have hu := hu_of hr
    refine ⟨_, (pss_cons (ps_if (pt_val (pe_callB call_isi (by rfl) T.isinstance (by decide +kernel) (pa_cons (pv 0) (pa_cons (pe_bltn (v := .ty "str") (by rfl) T.str (by decide +kernel) rfl) pa_nil))))
  (pss_one (ps_ret (pe_dget2 hu (pv 1) (pv 0) pe_int ⟨by rfl, by rfl, by rfl, by rfl⟩)))
  pss_nil)
  (pss_cons (ps_if (pt_not (pt_val (pe_callB call_isi (by rfl) T.isinstance (by decide +kernel) (pa_cons (pv 0) (pa_cons (pe_bltn (v := .ty "tuple") (by rfl) T.tuple (by decide +kernel) rfl) pa_nil)))))
  (pss_one (ps_ret (pv 0)))
  pss_nil)
  (pss_cons (ps_asg (pv 0) (pg_star (n := 2) (i := 1) rfl (pgs_cons (pg_name (i := 2) sc_worth.nd rfl (.inl rfl)) (pgs_star (pg_name (i := 3) sc_worth.nd rfl (.inl rfl)) pgs_nil))))
  (pss_cons (ps_asg (pe_lc (own := [("part", 6)]) (g := gName 6) (by rfl) sc_worth.nd (pi_list (pv 3)) (blkOk_by (own := [("part", 6)]) (N := ["calc", "words", "kind", "parts", "one", "other", "part"]) (sc := defScope s_worth) (by decide +kernel)) (fun _ _ _ _ _ => (pg_name (i := 6) sc_worth.nd rfl (.inl rfl))) (fun _ _ _ _ _ => pts_nil) (fun _ _ _ _ _ => (pcall T.D_worth ih (hr.mono (by omega)) (by rfl) (pa_cons (pv 6) (pa_cons (pv 1) pa_nil))))) (pg_unl rfl (pgs_cons (pg_name (i := 4) sc_worth.nd rfl (.inl rfl)) (pgs_cons (pg_name (i := 5) sc_worth.nd rfl (.inl rfl)) pgs_nil))))
  (pss_cons (ps_if (pt_cmpR op_eq (pv 2) pe_str (nomark _))
  (pss_one (ps_ret (pe_op op_add (pv 4) (pv 5))))
  pss_nil)
  (pss_one (ps_ret (pe_ifExp (pt_cmpR op_eq (pv 2) pe_str (nomark _)) (pe_op op_sub (pv 4) (pv 5)) (pe_callTy call_int1 (by rfl) T.int (by decide +kernel) (pa_cons (pe_cmpR op_lt (pv 4) (pv 5) (nomark _)) pa_nil)))))))))), ?_⟩
    cases hc with
    | num i =>
      refine ⟨_, rfl, _, _, _, _, false, rfl, .ty "str", .base (.int _), kit_ty (by decide +kernel), false, rfl, ?_⟩
      refine ⟨_, rfl, _, _, _, _, false, rfl, .ty "tuple", .base (.int _), kit_ty (by decide +kernel), false, rfl, ?_⟩
      exact ⟨_, rfl, q H (Same.refl H)⟩
    | word x =>
      refine ⟨_, rfl, _, _, _, _, true, rfl, .ty "str", .base (.str _), kit_ty (by decide +kernel), true, rfl, ?_⟩
      refine ⟨_, rfl, d, rfl, .inl ⟨_, .inl hd⟩, _, rfl, _, DGet.k (k := Sum.inr x) hd, ?_⟩
      rw [look_val]
      have := q H (Same.refl H)
      unfold Calc.worth at this
      cases e : look ws x with
      | none => rw [e] at this; exact this
      | some i => rw [e] at this; exact this
    | op h hy hz =>
      rename_i n0 a k y z c1 c2
      refine ⟨_, rfl, _, _, _, _, false, rfl, .ty "str", ty_tup h, kit_ty (by decide +kernel), false, rfl, ?_⟩
      refine ⟨_, rfl, _, _, _, _, true, rfl, .ty "tuple", ty_tup h, kit_ty (by decide +kernel), true, rfl, ?_⟩
      refine ⟨_, rfl, a, _, rfl, h, by show 2 ≤ 3 + 1; decide, by show 3 ≤ 16384; decide, fun p np => ?_⟩
      refine ⟨_, _, rfl, _, _, rfl, rfl, ?_⟩
      have s1 : Same H (upd H p (.lst [y, z])) := same_upd np
      have hp : (upd H p (.lst [y, z])) p = some (.lst [y, z]) := upd_same
      show tSeq _ _ _ _ (upd H p (.lst [y, z]))
      generalize upd H p (.lst [y, z]) = H1 at s1 hp ⊢
      refine ⟨_, rfl, p, rfl, ⟨_, sl hp⟩, fun D nD => lc_it walk_list (fun i H2 => Same H1 H2 ∧ H2 D = some (.lst (([c1, c2].map fun c => V.int (c.worth ws)).take i))) ⟨same_upd nD, upd_same⟩ (fun i H2 _ g => sl (g.1 _ _ hp)) ?_ ?_⟩
      · rintro i x H2 H3 hi ⟨sm, hD⟩ ⟨rfl, hx⟩
        have hi2 : i < 2 := hi
        rcases (by omega : i = 0 ∨ i = 1) with rfl | rfl
        · cases hx
          exact ⟨rfl, _, rfl, _, rfl, y, c1, d, ws, rfl, hy.same (s1.trans sm), (s1.trans sm) _ _ hd, fun H4 s4 => ⟨_, s4 _ _ hD, by show 0 < sizeLine; decide, (sm.trans s4).own nD, upd_same⟩⟩
        · cases hx
          exact ⟨rfl, _, rfl, _, rfl, z, c2, d, ws, rfl, hz.same (s1.trans sm), (s1.trans sm) _ _ hd, fun H4 s4 => ⟨_, s4 _ _ hD, by show 1 < sizeLine; decide, (sm.trans s4).own nD, upd_same⟩⟩
      · rintro H2 ⟨sm, hD⟩
        have hD' : H2 D = some (.lst [.int (c1.worth ws), .int (c2.worth ws)]) := hD
        refine ⟨D, _, rfl, sl hD', rfl, _, _, rfl, _, _, rfl, rfl, ?_⟩
        have fin := q H2 (s1.trans sm)
        cases k with
        | sum => exact ⟨_, rfl, rfl, _, rfl, iteT ⟨_, rfl, _, rfl, _, _, rfl, rfl, fin⟩⟩
        | minus => exact ⟨_, rfl, rfl, _, rfl, ⟨_, rfl, rfl, _, rfl, iteT ⟨_, rfl, _, rfl, _, _, rfl, rfl, fin⟩⟩⟩
        | less =>
          refine ⟨_, rfl, rfl, _, rfl, ⟨_, rfl, rfl, _, rfl, ⟨_, rfl, _, rfl, _, _, rfl, rfl, .inr ⟨_, rfl, ?_⟩⟩⟩⟩
          simp only [decide_eq_true_eq]
          exact fin
theorem ok_lworth (T : Tp K w mg) : ∀ n, FnOk P w K mg base CX0 (n + 1) T.f_lworth T.fd_lworth ["_law_calc", "_law_words"] (spWorth K n) := rec_fn (c := 0) (sp := spWorth K) fun n ih => by
  refine T.D_lworth.F.ok sc_lworth (fun vs H Q E h => ?_) (fun cdv A outer s H vs Q E hr h => ?_)
  · obtain ⟨v, c, d, ws, rfl, _⟩ := h
    rfl
  · obtain ⟨v, c, d, ws, rfl, hc, hd, q⟩ := h
    have hu := hu_of hr
    refine ⟨_, (pss_cons (ps_if (pt_val (pe_callB call_isi (by rfl) T.isinstance (by decide +kernel) (pa_cons (pv 0) (pa_cons (pe_bltn (v := .ty "int") (by rfl) T.int (by decide +kernel) rfl) pa_nil))))
  (pss_one (ps_ret (pv 0)))
  pss_nil)
  (pss_cons (ps_if (pt_val (pe_callB call_isi (by rfl) T.isinstance (by decide +kernel) (pa_cons (pv 0) (pa_cons (pe_bltn (v := .ty "str") (by rfl) T.str (by decide +kernel) rfl) pa_nil))))
  (pss_one (ps_ret (pe_dget2 hu (pv 1) (pv 0) pe_int ⟨by rfl, by rfl, by rfl, by rfl⟩)))
  pss_nil)
  (pss_cons (ps_par (i := 2) (j := 3) rfl sc_lworth.nd rfl rfl (by decide) rfl rfl (pa_cons (pcall T.D_lworth ih (hr.mono (by omega)) (by rfl) (pa_cons (pe_ix ix_tup (pv 0) pe_int (fun _ _ => rfl)) (pa_cons (pv 1) pa_nil))) (pa_cons (pcall T.D_lworth ih (hr.mono (by omega)) (by rfl) (pa_cons (pe_ix ix_tup (pv 0) pe_int (fun _ _ => rfl)) (pa_cons (pv 1) pa_nil))) pa_nil)) (by rfl))
  (pss_cons (ps_if (pt_cmpR op_eq (pe_ix ix_tup (pv 0) pe_int (fun _ _ => rfl)) pe_str (nomark _))
  (pss_one (ps_ret (pe_callTy call_int1 (by rfl) T.int (by decide +kernel) (pa_cons (pe_cmpR op_lt (pv 2) (pv 3) (nomark _)) pa_nil))))
  pss_nil)
  (pss_one (ps_ret (pe_ifExp (pt_cmpR op_eq (pe_ix ix_tup (pv 0) pe_int (fun _ _ => rfl)) pe_str (nomark _)) (pe_op op_add (pv 2) (pv 3)) (pe_op op_sub (pv 2) (pv 3))))))))), ?_⟩
    cases hc with
    | num i =>
      refine ⟨_, rfl, _, _, _, _, true, rfl, .ty "int", .base (.int _), kit_ty (by decide +kernel), true, rfl, ?_⟩
      exact ⟨_, rfl, q H (Same.refl H)⟩
    | word x =>
      refine ⟨_, rfl, _, _, _, _, false, rfl, .ty "int", .base (.str _), kit_ty (by decide +kernel), false, rfl, ?_⟩
      refine ⟨_, rfl, _, _, _, _, true, rfl, .ty "str", .base (.str _), kit_ty (by decide +kernel), true, rfl, ?_⟩
      refine ⟨_, rfl, d, rfl, .inl ⟨_, .inl hd⟩, _, rfl, _, DGet.k (k := Sum.inr x) hd, ?_⟩
      rw [look_val]
      have := q H (Same.refl H)
      unfold Calc.worth at this
      cases e : look ws x with
      | none => rw [e] at this; exact this
      | some i => rw [e] at this; exact this
    | op h hy hz =>
      rename_i n0 a k y z c1 c2
      refine ⟨_, rfl, _, _, _, _, false, rfl, .ty "int", ty_tup h, kit_ty (by decide +kernel), false, rfl, ?_⟩
      refine ⟨_, rfl, _, _, _, _, false, rfl, .ty "str", ty_tup h, kit_ty (by decide +kernel), false, rfl, ?_⟩
      refine ⟨_, rfl, a, _, _, _, rfl, rfl, h, atI_nat (j := 1) rfl, _, rfl, y, c1, d, ws, rfl, hy, hd, fun H1 s1 => ?_⟩
      refine ⟨_, rfl, a, _, _, _, rfl, rfl, s1.sqt h, atI_nat (j := 2) rfl, _, rfl, z, c2, d, ws, rfl, hz.same s1, s1 _ _ hd, fun H2 s2 => ?_⟩
      have s12 := s1.trans s2
      refine ⟨_, _, rfl, ?_⟩
      refine ⟨_, rfl, a, _, _, _, rfl, rfl, s12.sqt h, atI_nat (j := 0) rfl, rfl, _, rfl, ?_⟩
      have fin := q H2 s12
      cases k with
      | less =>
        refine iteT ⟨_, rfl, _, rfl, _, _, rfl, rfl, .inr ⟨_, rfl, ?_⟩⟩
        simp only [decide_eq_true_eq]
        exact fin
      | sum => exact iteF ⟨_, rfl, a, _, _, _, rfl, rfl, s12.sqt h, atI_nat (j := 0) rfl, rfl, _, rfl, iteT ⟨_, rfl, _, rfl, _, _, rfl, rfl, fin⟩⟩
      | minus => exact iteF ⟨_, rfl, a, _, _, _, rfl, rfl, s12.sqt h, atI_nat (j := 0) rfl, rfl, _, rfl, iteF ⟨_, rfl, _, rfl, _, _, rfl, rfl, fin⟩⟩
end
end TP
namespace TP
open PySem PySem.Spec PyProof.Rows L2 HX HB HG HU HH HD HS HV HQ HK HN HJ TL HM HP HR HO HC HF
/-! ### sorted names -/
theorem strs_alike (zs : List Str) : PySem.W.AllAlike (zs.map PyData.str) := by
  intro d hd d' hd'
  obtain ⟨p, _, rfl⟩ := List.mem_map.mp hd
  obtain ⟨q, _, rfl⟩ := List.mem_map.mp hd'
  rfl
theorem strs_sortable (zs : List Str) : PySem.W.Sortable (zs.map PyData.str) := by
  refine .inr fun d hd => ?_
  obtain ⟨p, _, rfl⟩ := List.mem_map.mp hd
  exact ⟨(fun h => by cases h), fun xs h => by cases h⟩
theorem strs_depth (zs : List Str) : ∀ d ∈ zs.map PyData.str, d.depth ≤ 60 := by
  intro d hd
  obtain ⟨p, _, rfl⟩ := List.mem_map.mp hd
  exact Nat.zero_le _
def unS : V → Str
  | .str z => z
  | _ => ""
def srt (zs : List Str) : List Str := (sortD (zs.map V.str) (zs.map PyData.str)).map unS
theorem unS_map : ∀ (l : List V), (∀ v ∈ l, ∃ z, v = .str z) → (l.map unS).map V.str = l
  | [], _ => rfl
  | v :: l, h => by
    obtain ⟨z, rfl⟩ := h v (List.mem_cons_self ..)
    rw [List.map_cons, List.map_cons, unS_map l fun w hw => h w (List.mem_cons_of_mem _ hw)]
    rfl
theorem srt_perm0 (zs : List Str) : (sortD (zs.map V.str) (zs.map PyData.str)).Perm (zs.map V.str) := sortD_perm (by rw [List.length_map, List.length_map])
theorem srt_eq (zs : List Str) : sortD (zs.map V.str) (zs.map PyData.str) = (srt zs).map V.str := by
  refine (unS_map _ fun v hv => ?_).symm
  have := (srt_perm0 zs).mem_iff.mp hv
  obtain ⟨z, _, rfl⟩ := List.mem_map.mp this
  exact ⟨z, rfl⟩
theorem srt_mem {zs : List Str} {z : Str} (h : z ∈ srt zs) : z ∈ zs := by
  unfold srt at h
  obtain ⟨v, hv, rfl⟩ := List.mem_map.mp h
  have := (srt_perm0 zs).mem_iff.mp hv
  obtain ⟨y, hy, rfl⟩ := List.mem_map.mp this
  exact hy
theorem srt_len (zs : List Str) : (srt zs).length = zs.length := by
  unfold srt
  rw [List.length_map, (srt_perm0 zs).length_eq, List.length_map]
def leS (x y : Str) : Bool := decide (tl x ≤ tl y)
theorem srt_merge (zs : List Str) : srt zs = zs.mergeSort leS := by
  unfold srt sortD
  have e1 : (zs.map V.str).zip (zs.map PyData.str) = zs.map fun z => (V.str z, PyData.str z) := by rw [List.zip_map']
  rw [e1, ← List.map_mergeSort (r := leS) (fun x _ y _ => ?_), List.map_map, List.map_map]
  · have : ((unS ∘ fun p : V × PyData => p.1) ∘ fun z => (V.str z, PyData.str z)) = id := rfl
    rw [this, List.map_id]
  · show leS x y = PySem.W.dataLe false (·) (PyData.str x) (PyData.str y)
    have := congrFun (congrFun (PySem.W.dataLe_str (β := Str) id) x) y
    exact this.symm
theorem srt_congr {zs ys : List Str} (h : zs.Perm ys) : srt zs = srt ys := by
  rw [srt_merge, srt_merge]
  have tr : ∀ a b c : Str, leS a b = true → leS b c = true → leS a c = true := fun a b c h1 h2 => decide_eq_true (List.le_trans (of_decide_eq_true h1) (of_decide_eq_true h2))
  have to : ∀ a b : Str, (leS a b || leS b a) = true := fun a b => by
    rw [Bool.or_eq_true]
    rcases List.le_total (tl a) (tl b) with h | h
    · exact .inl (decide_eq_true h)
    · exact .inr (decide_eq_true h)
  have p1 := List.pairwise_mergeSort tr to zs
  have p2 := List.pairwise_mergeSort tr to ys
  refine List.Perm.eq_of_pairwise (le := fun a b => leS a b = true) (fun x y _ _ h1 h2 => ext_tl (List.le_antisymm (of_decide_eq_true h1) (of_decide_eq_true h2))) p1 p2 ?_
  exact ((List.mergeSort_perm zs leS).trans h).trans (List.mergeSort_perm ys leS).symm
theorem srt_perm (zs : List Str) : (srt zs).Perm zs := by rw [srt_merge]; exact List.mergeSort_perm zs leS
/-! ### what doing rows comes to -/
structure Ls where
  cells : List (Str × Int)
  words : List (Str × Int)
  told : List Int
  now : Int
  steps : Nat
def putI (l : List (Str × Int)) (z : Str) (i : Int) : List (Str × Int) := if (l.any fun q => decide (q.1 = z)) = true then l.map (fun q => if q.1 = z then (q.1, i) else q) else l ++ [(z, i)]
theorem key_inr (a b : Str) : decide ((Sum.inr a : Key) = Sum.inr b) = decide (a = b) := decide_eq_decide.mpr ⟨fun h => Sum.inr.inj h, fun h => congrArg Sum.inr h⟩
theorem putI_dI (l : List (Str × Int)) (z : Str) (i : Int) : putK (dI l) (Sum.inr z : Key) (.int i) = dI (putI l z i) := by
  unfold putK putI
  have e : ((dI l).any fun kv => decide (kv.1 = (Sum.inr z : Key))) = l.any fun q => decide (q.1 = z) := by
    unfold dI
    rw [List.any_map]
    congr 1
    funext q
    exact key_inr q.1 z
  rw [e]
  by_cases h : (l.any fun q => decide (q.1 = z)) = true
  · rw [if_pos h, if_pos h]
    unfold dI
    rw [List.map_map, List.map_map]
    apply List.map_congr_left
    intro q _
    show (if (Sum.inr q.1 : Key) = Sum.inr z then ((Sum.inr q.1 : Key), V.int i) else (Sum.inr q.1, V.int q.2)) = (Sum.inr (if q.1 = z then (q.1, i) else q).1, V.int (if q.1 = z then (q.1, i) else q).2)
    by_cases hq : q.1 = z
    · rw [if_pos (congrArg Sum.inr hq), if_pos hq]
    · rw [if_neg (fun h => hq (Sum.inr.inj h)), if_neg hq]
  · rw [if_neg h, if_neg h]
    unfold dI
    rw [List.map_append]
    rfl
theorem putI_len (l : List (Str × Int)) (z : Str) (i : Int) : (putI l z i).length ≤ l.length + 1 := by
  unfold putI
  split
  · rw [List.length_map]; omega
  · rw [List.length_append, List.length_singleton]; exact Nat.le_refl _
theorem putI_keys {l : List (Str × Int)} {z : Str} (h : z ∈ l.map (·.1)) (i : Int) : (putI l z i).map (·.1) = l.map (·.1) := by
  unfold putI
  have : (l.any fun q => decide (q.1 = z)) = true := by
    obtain ⟨q, hq, e⟩ := List.mem_map.mp h
    exact List.any_eq_true.mpr ⟨q, hq, decide_eq_true e⟩
  rw [if_pos this, List.map_map]
  apply List.map_congr_left
  intro q _
  show (if q.1 = z then (q.1, i) else q).1 = q.1
  split <;> rfl
theorem look_mem {l : List (Str × Int)} {z : Str} (h : z ∈ l.map (·.1)) : ∃ i, look l z = some i := by
  unfold look
  cases e : l.find? fun p => decide (p.1 = z) with
  | some p => exact ⟨p.2, rfl⟩
  | none =>
    obtain ⟨q, hq, e2⟩ := List.mem_map.mp h
    have := List.find?_eq_none.mp e q hq
    exact absurd (decide_eq_true e2) this
def wD (ws : List (Str × Int)) (x : PyData) : Int := (cOf x).worth ws
abbrev Rz := List Str × Ls
def runB (f : PyData → Ls → Rz) : List PyData → Ls → Rz
  | [], s => ([], s)
  | r :: rs, s => if (f r s).1 = [] then runB f rs (f r s).2 else f r s
def loopB (g : Ls → Rz) : Nat → Ls → Rz
  | 0, s => ([], s)
  | k + 1, s => if (g s).1 = [] then loopB g k (g s).2 else g s
def plainR (w : Str) (ds : List PyData) (s : Ls) : Ls :=
  if w = "put" then (match ds with | [.str nm, c] => { s with words := putI s.words nm (wD s.words c) } | _ => s)
  else if w = "read" then (match ds with | [.str nm, .str z] => { s with words := putI s.words nm ((look s.cells z).getD 0) } | _ => s)
  else if w = "write" then (match ds with | [.str z, c] => { s with cells := putI s.cells z (wD s.words c) } | _ => s)
  else if w = "tell" then (match ds with | [c] => { s with told := s.told ++ [wD s.words c] } | _ => s)
  else (match ds with | [.int i] => { s with now := s.now + i } | _ => s)
def plainW : List Str := ["put", "read", "write", "tell", "rest"]
def upS (s : Ls) : Ls := { s with steps := s.steps + 1 }
def deepR (f : List PyData → Ls → Rz) (w : Str) (ds : List PyData) (s : Ls) : Rz :=
  if w = "fail" then (match ds with | [.str nm] => ([nm], s) | _ => ([], s))
  else if w = "try" then (match ds with | [.tuple a, .tuple b] => (srt ((f a s).1 ++ (f b (f a s).2).1), (f b (f a s).2).2) | _ => ([], s))
  else if w = "catch" then (match ds with | [.tuple a, .str nm, .tuple b] => if (f a s).1 ≠ [] ∧ ∀ x ∈ (f a s).1, x = nm then f b (f a s).2 else f a s | _ => ([], s))
  else if w = "if" then (match ds with | [c, .tuple a, .tuple b] => if wD s.words c ≠ 0 then f a s else f b s | _ => ([], s))
  else if w = "often" then (match ds with | [.int i, .tuple a] => loopB (f a) i.toNat s | _ => ([], s))
  else (match ds.getLast? with | some (.tuple a) => f a s | _ => ([], s))
def runR : Nat → PyData → Ls → Rz
  | 0, _, s => ([], s)
  | n + 1, .tuple (.str w :: ds), s => if w ∈ plainW then ([], plainR w ds (upS s)) else deepR (runB (runR n)) w ds (upS s)
  | _ + 1, _, s => ([], s)
/-- what it may take -/
def costR : Nat → PyData → Nat
  | 0, _ => 0
  | n + 1, row => 1 + 3 * ((bodiesD row).map fun b => ((rowsD b).map (costR n)).sum).sum
def costB (n : Nat) (rows : List PyData) : Nat := (rows.map (costR n)).sum
theorem cost_cnt : ∀ (n : Nat) (rows : List PyData), costB n rows ≤ 3 ^ n * cntD n rows
  | 0, rows => by
    have : costB 0 rows = 0 := by
      unfold costB
      induction rows with
      | nil => rfl
      | cons r rs ih => rw [List.map_cons, List.sum_cons, ih]; rfl
    rw [this]
    exact Nat.zero_le _
  | n + 1, rows => by
    have ih := cost_cnt n
    induction rows with
    | nil => exact Nat.zero_le _
    | cons r rs ihr =>
      have e1 : costB (n + 1) (r :: rs) = costR (n + 1) r + costB (n + 1) rs := by unfold costB; rw [List.map_cons, List.sum_cons]
      have e2 : cntD (n + 1) (r :: rs) = (1 + ((bodiesD r).map fun b => cntD n (rowsD b)).sum) + cntD (n + 1) rs := by
        show ((r :: rs).map _).sum = _
        rw [List.map_cons, List.sum_cons]
        rfl
      have hb : ((bodiesD r).map fun b => ((rowsD b).map (costR n)).sum).sum ≤ 3 ^ n * ((bodiesD r).map fun b => cntD n (rowsD b)).sum := by
        induction bodiesD r with
        | nil => exact Nat.zero_le _
        | cons b bs ihb =>
          rw [List.map_cons, List.sum_cons, List.map_cons, List.sum_cons, Nat.mul_add]
          exact Nat.add_le_add (ih (rowsD b)) ihb
      have e3 : costR (n + 1) r = 1 + 3 * ((bodiesD r).map fun b => ((rowsD b).map (costR n)).sum).sum := rfl
      rw [e1, e2, e3, Nat.mul_add, Nat.mul_add, Nat.pow_succ]
      have p1 : 1 ≤ 3 ^ n := Nat.one_le_pow _ _ (by decide)
      have := Nat.mul_le_mul_left 3 hb
      have e4 : 3 * (3 ^ n * ((bodiesD r).map fun b => cntD n (rowsD b)).sum) = 3 ^ n * 3 * ((bodiesD r).map fun b => cntD n (rowsD b)).sum := by
        rw [← Nat.mul_assoc, Nat.mul_comm 3 (3 ^ n)]
      have ihr' : costB (n + 1) rs ≤ 3 ^ n * 3 * cntD (n + 1) rs := by rw [← Nat.pow_succ]; exact ihr
      omega
/-! ### what stays so -/
structure LsOk (cn : List Str) (s : Ls) : Prop where
  tl : s.told.length ≤ s.steps
  wl : s.words.length ≤ s.steps
  ck : s.cells.map (·.1) = cn
theorem runB_ind {f : PyData → Ls → Rz} {Pr : Rz → Prop} {I : Ls → Prop} (h0 : ∀ s, I s → Pr ([], s)) : ∀ (rows : List PyData) (s : Ls), I s → (∀ r ∈ rows, ∀ s, I s → Pr (f r s) ∧ I (f r s).2) → Pr (runB f rows s) ∧ I (runB f rows s).2
  | [], s, hi, _ => ⟨h0 s hi, hi⟩
  | r :: rs, s, hi, h => by
    obtain ⟨h1, h2⟩ := h r (List.mem_cons_self ..) s hi
    unfold runB
    split
    · exact runB_ind h0 rs _ h2 fun x hx => h x (List.mem_cons_of_mem _ hx)
    · exact ⟨h1, h2⟩
theorem loopB_ind {g : Ls → Rz} {Pr : Rz → Prop} {I : Ls → Prop} (h0 : ∀ s, I s → Pr ([], s)) (h : ∀ s, I s → Pr (g s) ∧ I (g s).2) : ∀ (k : Nat) (s : Ls), I s → Pr (loopB g k s) ∧ I (loopB g k s).2
  | 0, s, hi => ⟨h0 s hi, hi⟩
  | k + 1, s, hi => by
    obtain ⟨h1, h2⟩ := h s hi
    unfold loopB
    split
    · exact loopB_ind h0 h k _ h2
    · exact ⟨h1, h2⟩
theorem srt_idem (zs : List Str) : srt (srt zs) = srt zs := srt_congr (srt_perm zs)
theorem srt_nil : srt [] = [] := List.length_eq_zero_iff.mp (srt_len [])
theorem srt_one (z : Str) : srt [z] = [z] := List.perm_singleton.mp (srt_perm [z])
section
variable {W cn ln hn : List Str} {C : PyData → Prop}
def NoW (W : List Str) : Prop := ("send" : Str) ∉ W ∧ ("take" : Str) ∉ W ∧ ("off" : Str) ∉ W
structure RzOk (cn : List Str) (p : Rz) : Prop where
  srt : srt p.1 = p.1
  ok : LsOk cn p.2
theorem run_ok (hW : NoW W) : ∀ (n : Nat) (row : PyData), Do C W cn ln hn n row → ∀ s, LsOk cn s → RzOk cn (runR n row s) := by
  intro n
  induction n with
  | zero => intro row h; cases h
  | succ n ih =>
    have body : ∀ (rows : List PyData), (∀ x ∈ rows, Do C W cn ln hn n x) → ∀ s, LsOk cn s → RzOk cn (runB (runR n) rows s) := fun rows h s hs =>
      (runB_ind (Pr := RzOk cn) (fun s hs => ⟨srt_nil, hs⟩) rows s hs fun r hr s hs => ⟨ih r (h r hr) s hs, (ih r (h r hr) s hs).ok⟩).1
    intro row h s hs
    have hu : LsOk cn (upS s) := ⟨Nat.le_succ_of_le hs.tl, Nat.le_succ_of_le hs.wl, hs.ck⟩
    have hw1 : ∀ (z : Str) (i : Int), (putI (upS s).words z i).length ≤ (upS s).steps := fun z i => Nat.le_trans (putI_len _ _ _) (Nat.succ_le_succ hs.wl)
    cases h with
    | put h1 h2 => exact ⟨srt_nil, hu.tl, hw1 _ _, hs.ck⟩
    | read h1 h2 => exact ⟨srt_nil, hu.tl, hw1 _ _, hs.ck⟩
    | write h1 h2 => exact ⟨srt_nil, hu.tl, hu.wl, (putI_keys (by rw [← hs.ck] at h1; exact h1) _).trans hs.ck⟩
    | tell h1 => exact ⟨srt_nil, (by show (List.length (_ ++ [_])) ≤ _; rw [List.length_append, List.length_singleton]; exact Nat.succ_le_succ hs.tl), hu.wl, hs.ck⟩
    | rest h1 h2 => exact ⟨srt_nil, hu.tl, hu.wl, hs.ck⟩
    | fail h1 => exact ⟨srt_one _, hu⟩
    | send h1 => exact absurd h1 hW.1
    | take h1 => exact absurd h1 hW.2.1
    | off h1 => exact absurd h1 hW.2.2
    | hold _ hb => exact body _ hb _ hu
    | nest _ hb => exact body _ hb _ hu
    | within _ _ _ _ hb => exact body _ hb _ hu
    | start _ _ hb => exact body _ hb _ hu
    | shield hb => exact body _ hb _ hu
    | try_ h1 h2 =>
      have b1 := body _ h1 _ hu
      have b2 := body _ h2 _ b1.ok
      exact ⟨srt_idem _, b2.ok⟩
    | catch_ hn' h1 h2 =>
      rename_i nm rows rows2
      have b1 := body _ h1 _ hu
      have b2 := body _ h2 _ b1.ok
      show RzOk cn (if (runB (runR n) rows (upS s)).1 ≠ [] ∧ ∀ x ∈ (runB (runR n) rows (upS s)).1, x = nm then runB (runR n) rows2 (runB (runR n) rows (upS s)).2 else runB (runR n) rows (upS s))
      split
      · exact b2
      · exact b1
    | if_ hc h1 h2 =>
      rename_i c rows rows2
      have b1 := body _ h1 _ hu
      have b2 := body _ h2 _ hu
      show RzOk cn (if wD (upS s).words c ≠ 0 then runB (runR n) rows (upS s) else runB (runR n) rows2 (upS s))
      split
      · exact b1
      · exact b2
    | often _ _ h1 => exact (loopB_ind (Pr := RzOk cn) (I := LsOk cn) (fun s hs => ⟨srt_nil, hs⟩) (fun s hs => ⟨body _ h1 s hs, (body _ h1 s hs).ok⟩) _ _ hu).1
theorem runB_ok (hW : NoW W) (n : Nat) (rows : List PyData) (h : ∀ x ∈ rows, Do C W cn ln hn n x) (s : Ls) (hs : LsOk cn s) : RzOk cn (runB (runR n) rows s) :=
  (runB_ind (Pr := RzOk cn) (fun s hs => ⟨srt_nil, hs⟩) rows s hs fun r hr s hs => ⟨run_ok hW n r (h r hr) s hs, (run_ok hW n r (h r hr) s hs).ok⟩).1
def RzNm (p : Rz) : Prop := ∀ z ∈ p.1, isNameL z = true
theorem nm_nil {s : Ls} : RzNm ([], s) := fun _ h => by cases h
theorem run_nm (hW : NoW W) : ∀ (n : Nat) (row : PyData), Do C W cn ln hn n row → ∀ s, RzNm (runR n row s) := by
  intro n
  induction n with
  | zero => intro row h; cases h
  | succ n ih =>
    have body : ∀ (rows : List PyData), (∀ x ∈ rows, Do C W cn ln hn n x) → ∀ s, RzNm (runB (runR n) rows s) := fun rows h s =>
      (runB_ind (Pr := RzNm) (I := fun _ => True) (fun s _ => nm_nil) rows s trivial fun r hr s _ => ⟨ih r (h r hr) s, trivial⟩).1
    intro row h s
    cases h with
    | put h1 h2 => exact nm_nil
    | read h1 h2 => exact nm_nil
    | write h1 h2 => exact nm_nil
    | tell h1 => exact nm_nil
    | rest h1 h2 => exact nm_nil
    | fail h1 => exact fun z hz => by rw [List.mem_singleton.mp hz]; exact h1
    | send h1 => exact absurd h1 hW.1
    | take h1 => exact absurd h1 hW.2.1
    | off h1 => exact absurd h1 hW.2.2
    | hold _ hb => exact body _ hb _
    | nest _ hb => exact body _ hb _
    | within _ _ _ _ hb => exact body _ hb _
    | start _ _ hb => exact body _ hb _
    | shield hb => exact body _ hb _
    | try_ h1 h2 =>
      intro z hz
      rcases List.mem_append.mp ((srt_perm _).mem_iff.mp hz) with hz | hz
      · exact body _ h1 _ z hz
      · exact body _ h2 _ z hz
    | catch_ hn' h1 h2 =>
      rename_i nm rows rows2
      show RzNm (if (runB (runR n) rows (upS s)).1 ≠ [] ∧ ∀ x ∈ (runB (runR n) rows (upS s)).1, x = nm then runB (runR n) rows2 (runB (runR n) rows (upS s)).2 else runB (runR n) rows (upS s))
      split
      · exact body _ h2 _
      · exact body _ h1 _
    | if_ hc h1 h2 =>
      rename_i c rows rows2
      show RzNm (if wD (upS s).words c ≠ 0 then runB (runR n) rows (upS s) else runB (runR n) rows2 (upS s))
      split
      · exact body _ h1 _
      · exact body _ h2 _
    | often _ _ h1 => exact (loopB_ind (Pr := RzNm) (I := fun _ => True) (fun s _ => nm_nil) (fun s _ => ⟨body _ h1 s, trivial⟩) _ _ trivial).1
theorem runB_nm (hW : NoW W) (n : Nat) (rows : List PyData) (h : ∀ x ∈ rows, Do C W cn ln hn n x) (s : Ls) : RzNm (runB (runR n) rows s) :=
  (runB_ind (Pr := RzNm) (I := fun _ => True) (fun s _ => nm_nil) rows s trivial fun r hr s _ => ⟨run_nm hW n r (h r hr) s, trivial⟩).1
/-- how many rows it takes -/
theorem runB_steps {f : PyData → Ls → Rz} {g : PyData → Nat} : ∀ (rows : List PyData) (s : Ls), (∀ r ∈ rows, ∀ s, (f r s).2.steps ≤ s.steps + g r) → (runB f rows s).2.steps ≤ s.steps + (rows.map g).sum
  | [], s, _ => Nat.le_add_right _ _
  | r :: rs, s, h => by
    have h1 := h r (List.mem_cons_self ..) s
    rw [List.map_cons, List.sum_cons]
    unfold runB
    split
    · have := runB_steps rs (f r s).2 fun x hx => h x (List.mem_cons_of_mem _ hx)
      omega
    · omega
theorem loopB_steps {g : Ls → Rz} {c : Nat} (h : ∀ s, (g s).2.steps ≤ s.steps + c) : ∀ (k : Nat) (s : Ls), (loopB g k s).2.steps ≤ s.steps + k * c
  | 0, s => by show s.steps ≤ _; omega
  | k + 1, s => by
    have h1 := h s
    unfold loopB
    rw [Nat.succ_mul]
    split
    · have := loopB_steps h k (g s).2
      omega
    · have := Nat.zero_le (k * c)
      omega
theorem run_steps (hW : NoW W) : ∀ (n : Nat) (row : PyData), Do C W cn ln hn n row → ∀ s, (runR n row s).2.steps ≤ s.steps + costR n row := by
  intro n
  induction n with
  | zero => intro row h; cases h
  | succ n ih =>
    have body : ∀ (rows : List PyData), (∀ x ∈ rows, Do C W cn ln hn n x) → ∀ s, (runB (runR n) rows s).2.steps ≤ s.steps + costB n rows := fun rows h s => runB_steps rows s fun r hr s => ih r (h r hr) s
    intro row h s
    have one : ∀ (rows : List PyData), (∀ x ∈ rows, Do C W cn ln hn n x) → (runB (runR n) rows (upS s)).2.steps ≤ s.steps + (1 + 3 * (costB n rows + 0)) := fun rows h => by
      have := body rows h (upS s)
      have e : (upS s).steps = s.steps + 1 := rfl
      omega
    have two : ∀ (a b : Nat), 1 + 3 * (a + (b + 0)) = 1 + 3 * a + 3 * b := fun a b => by omega
    have e1 : (upS s).steps = s.steps + 1 := rfl
    cases h with
    | put h1 h2 => exact Nat.le_refl _
    | read h1 h2 => exact Nat.le_refl _
    | write h1 h2 => exact Nat.le_refl _
    | tell h1 => exact Nat.le_refl _
    | rest h1 h2 => exact Nat.le_refl _
    | fail h1 => exact Nat.le_refl _
    | send h1 => exact absurd h1 hW.1
    | take h1 => exact absurd h1 hW.2.1
    | off h1 => exact absurd h1 hW.2.2
    | hold _ hb => exact one _ hb
    | nest _ hb => exact one _ hb
    | within _ _ _ _ hb => exact one _ hb
    | start _ _ hb => exact one _ hb
    | shield hb => exact one _ hb
    | try_ h1 h2 =>
      rename_i rows rows2
      have b1 := body _ h1 (upS s)
      have b2 := body _ h2 (runB (runR n) rows (upS s)).2
      show (runB (runR n) rows2 (runB (runR n) rows (upS s)).2).2.steps ≤ s.steps + (1 + 3 * (costB n rows + (costB n rows2 + 0)))
      omega
    | catch_ hn' h1 h2 =>
      rename_i nm rows rows2
      have b1 := body _ h1 (upS s)
      have b2 := body _ h2 (runB (runR n) rows (upS s)).2
      show (if (runB (runR n) rows (upS s)).1 ≠ [] ∧ ∀ x ∈ (runB (runR n) rows (upS s)).1, x = nm then runB (runR n) rows2 (runB (runR n) rows (upS s)).2 else runB (runR n) rows (upS s)).2.steps ≤ s.steps + (1 + 3 * (costB n rows + (costB n rows2 + 0)))
      split <;> omega
    | if_ hc h1 h2 =>
      rename_i c rows rows2
      have b1 := body _ h1 (upS s)
      have b2 := body _ h2 (upS s)
      show (if wD (upS s).words c ≠ 0 then runB (runR n) rows (upS s) else runB (runR n) rows2 (upS s)).2.steps ≤ s.steps + (1 + 3 * (costB n rows + (costB n rows2 + 0)))
      split <;> omega
    | often i0 i1 h1 =>
      rename_i i rows
      have := loopB_steps (g := runB (runR n) rows) (c := costB n rows) (fun s => body _ h1 s) i.toNat (upS s)
      show (loopB (runB (runR n) rows) i.toNat (upS s)).2.steps ≤ s.steps + (1 + 3 * (costB n rows + 0))
      have h3 : i.toNat * costB n rows ≤ 3 * costB n rows := Nat.mul_le_mul_right _ (by omega)
      omega
/-- no more errors than rows done -/
theorem runB_len {f : PyData → Ls → Rz} : ∀ (rows : List PyData) (s : Ls), (∀ r ∈ rows, ∀ s, (f r s).1.length + s.steps ≤ (f r s).2.steps) → (runB f rows s).1.length + s.steps ≤ (runB f rows s).2.steps
  | [], s, _ => by show 0 + s.steps ≤ s.steps; omega
  | r :: rs, s, h => by
    have h1 := h r (List.mem_cons_self ..) s
    unfold runB
    split
    · have := runB_len rs (f r s).2 fun x hx => h x (List.mem_cons_of_mem _ hx)
      omega
    · exact h1
theorem loopB_len {g : Ls → Rz} (h : ∀ s, (g s).1.length + s.steps ≤ (g s).2.steps) : ∀ (k : Nat) (s : Ls), (loopB g k s).1.length + s.steps ≤ (loopB g k s).2.steps
  | 0, s => by show 0 + s.steps ≤ s.steps; omega
  | k + 1, s => by
    have h1 := h s
    unfold loopB
    split
    · have := loopB_len h k (g s).2
      omega
    · exact h1
theorem run_len (hW : NoW W) : ∀ (n : Nat) (row : PyData), Do C W cn ln hn n row → ∀ s, (runR n row s).1.length + s.steps ≤ (runR n row s).2.steps := by
  intro n
  induction n with
  | zero => intro row h; cases h
  | succ n ih =>
    have body : ∀ (rows : List PyData), (∀ x ∈ rows, Do C W cn ln hn n x) → ∀ s, (runB (runR n) rows s).1.length + s.steps ≤ (runB (runR n) rows s).2.steps := fun rows h s => runB_len rows s fun r hr s => ih r (h r hr) s
    intro row h s
    have one : ∀ (rows : List PyData), (∀ x ∈ rows, Do C W cn ln hn n x) → (runB (runR n) rows (upS s)).1.length + s.steps ≤ (runB (runR n) rows (upS s)).2.steps := fun rows h => by
      have := body rows h (upS s)
      have e : (upS s).steps = s.steps + 1 := rfl
      omega
    have e1 : (upS s).steps = s.steps + 1 := rfl
    have z0 : ([] : List Str).length + s.steps ≤ s.steps + 1 := by rw [List.length_nil]; omega
    cases h with
    | put h1 h2 => exact z0
    | read h1 h2 => exact z0
    | write h1 h2 => exact z0
    | tell h1 => exact z0
    | rest h1 h2 => exact z0
    | fail h1 => exact Nat.le_of_eq (Nat.add_comm 1 s.steps)
    | send h1 => exact absurd h1 hW.1
    | take h1 => exact absurd h1 hW.2.1
    | off h1 => exact absurd h1 hW.2.2
    | hold _ hb => exact one _ hb
    | nest _ hb => exact one _ hb
    | within _ _ _ _ hb => exact one _ hb
    | start _ _ hb => exact one _ hb
    | shield hb => exact one _ hb
    | try_ h1 h2 =>
      rename_i rows rows2
      have b1 := body _ h1 (upS s)
      have b2 := body _ h2 (runB (runR n) rows (upS s)).2
      show (srt ((runB (runR n) rows (upS s)).1 ++ (runB (runR n) rows2 (runB (runR n) rows (upS s)).2).1)).length + s.steps ≤ (runB (runR n) rows2 (runB (runR n) rows (upS s)).2).2.steps
      rw [srt_len, List.length_append]
      omega
    | catch_ hn' h1 h2 =>
      rename_i nm rows rows2
      have b1 := body _ h1 (upS s)
      have b2 := body _ h2 (runB (runR n) rows (upS s)).2
      show (if (runB (runR n) rows (upS s)).1 ≠ [] ∧ ∀ x ∈ (runB (runR n) rows (upS s)).1, x = nm then runB (runR n) rows2 (runB (runR n) rows (upS s)).2 else runB (runR n) rows (upS s)).1.length + s.steps ≤ (if (runB (runR n) rows (upS s)).1 ≠ [] ∧ ∀ x ∈ (runB (runR n) rows (upS s)).1, x = nm then runB (runR n) rows2 (runB (runR n) rows (upS s)).2 else runB (runR n) rows (upS s)).2.steps
      split <;> omega
    | if_ hc h1 h2 =>
      rename_i c rows rows2
      have b1 := body _ h1 (upS s)
      have b2 := body _ h2 (upS s)
      show (if wD (upS s).words c ≠ 0 then runB (runR n) rows (upS s) else runB (runR n) rows2 (upS s)).1.length + s.steps ≤ (if wD (upS s).words c ≠ 0 then runB (runR n) rows (upS s) else runB (runR n) rows2 (upS s)).2.steps
      split <;> omega
    | often i0 i1 h1 =>
      rename_i i rows
      have := loopB_len (g := runB (runR n) rows) (fun s => body _ h1 s) i.toNat (upS s)
      show (loopB (runB (runR n) rows) i.toNat (upS s)).1.length + s.steps ≤ (loopB (runB (runR n) rows) i.toNat (upS s)).2.steps
      omega
theorem runB_stepsD (hW : NoW W) (n : Nat) (rows : List PyData) (h : ∀ x ∈ rows, Do C W cn ln hn n x) (s : Ls) : (runB (runR n) rows s).2.steps ≤ s.steps + costB n rows := runB_steps rows s fun r hr s => run_steps hW n r (h r hr) s
theorem runB_lenD (hW : NoW W) (n : Nat) (rows : List PyData) (h : ∀ x ∈ rows, Do C W cn ln hn n x) (s : Ls) : (runB (runR n) rows s).1.length + s.steps ≤ (runB (runR n) rows s).2.steps := runB_len rows s fun r hr s => run_len hW n r (h r hr) s
/-- errors at once -/
theorem runB_pow {f : PyData → Ls → Rz} {b : Nat} : ∀ (rows : List PyData) (s : Ls), (∀ r ∈ rows, ∀ s, (f r s).1.length ≤ b) → (runB f rows s).1.length ≤ b
  | [], s, _ => Nat.zero_le _
  | r :: rs, s, h => by
    unfold runB
    split
    · exact runB_pow rs _ fun x hx => h x (List.mem_cons_of_mem _ hx)
    · exact h r (List.mem_cons_self ..) s
theorem loopB_pow {g : Ls → Rz} {b : Nat} (h : ∀ s, (g s).1.length ≤ b) : ∀ (k : Nat) (s : Ls), (loopB g k s).1.length ≤ b
  | 0, s => Nat.zero_le _
  | k + 1, s => by
    unfold loopB
    split
    · exact loopB_pow h k _
    · exact h s
theorem run_pow (hW : NoW W) : ∀ (n : Nat) (row : PyData), Do C W cn ln hn n row → ∀ s, (runR n row s).1.length ≤ 2 ^ n := by
  intro n
  induction n with
  | zero => intro row h; cases h
  | succ n ih =>
    have body : ∀ (rows : List PyData), (∀ x ∈ rows, Do C W cn ln hn n x) → ∀ s, (runB (runR n) rows s).1.length ≤ 2 ^ n := fun rows h s => runB_pow rows s fun r hr s => ih r (h r hr) s
    intro row h s
    have p2 : 2 ^ (n + 1) = 2 ^ n + 2 ^ n := by rw [Nat.pow_succ]; omega
    have p1 : 1 ≤ 2 ^ n := Nat.one_le_pow _ _ (by decide)
    have up : ∀ {k : Nat}, k ≤ 2 ^ n → k ≤ 2 ^ (n + 1) := fun h => by omega
    cases h with
    | put h1 h2 => exact Nat.zero_le _
    | read h1 h2 => exact Nat.zero_le _
    | write h1 h2 => exact Nat.zero_le _
    | tell h1 => exact Nat.zero_le _
    | rest h1 h2 => exact Nat.zero_le _
    | fail h1 => exact up p1
    | send h1 => exact absurd h1 hW.1
    | take h1 => exact absurd h1 hW.2.1
    | off h1 => exact absurd h1 hW.2.2
    | hold _ hb => exact up (body _ hb _)
    | nest _ hb => exact up (body _ hb _)
    | within _ _ _ _ hb => exact up (body _ hb _)
    | start _ _ hb => exact up (body _ hb _)
    | shield hb => exact up (body _ hb _)
    | try_ h1 h2 =>
      rename_i rows rows2
      have b1 := body _ h1 (upS s)
      have b2 := body _ h2 (runB (runR n) rows (upS s)).2
      show (srt ((runB (runR n) rows (upS s)).1 ++ (runB (runR n) rows2 (runB (runR n) rows (upS s)).2).1)).length ≤ 2 ^ (n + 1)
      rw [srt_len, List.length_append]
      omega
    | catch_ hn' h1 h2 =>
      rename_i nm rows rows2
      have b1 := body _ h1 (upS s)
      have b2 := body _ h2 (runB (runR n) rows (upS s)).2
      show (if (runB (runR n) rows (upS s)).1 ≠ [] ∧ ∀ x ∈ (runB (runR n) rows (upS s)).1, x = nm then runB (runR n) rows2 (runB (runR n) rows (upS s)).2 else runB (runR n) rows (upS s)).1.length ≤ 2 ^ (n + 1)
      split <;> omega
    | if_ hc h1 h2 =>
      rename_i c rows rows2
      have b1 := body _ h1 (upS s)
      have b2 := body _ h2 (upS s)
      show (if wD (upS s).words c ≠ 0 then runB (runR n) rows (upS s) else runB (runR n) rows2 (upS s)).1.length ≤ 2 ^ (n + 1)
      split <;> omega
    | often i0 i1 h1 =>
      rename_i i rows
      exact up (loopB_pow (g := runB (runR n) rows) (fun s => body _ h1 s) i.toNat (upS s))
theorem runB_powD (hW : NoW W) (n : Nat) (rows : List PyData) (h : ∀ x ∈ rows, Do C W cn ln hn n x) (s : Ls) : (runB (runR n) rows s).1.length ≤ 2 ^ n := runB_pow rows s fun r hr s => run_pow hW n r (h r hr) s
end
/-! ### a set of texts is just the one -/
theorem uq_step {zs : List Str} {i : Nat} (h : i < zs.length) : HV.uq zs (i + 1) = if zs[i] ∈ zs.take i then HV.uq zs i else HV.uq zs i + 1 := by
  have e : zs.getD i Str.empty = zs[i] := by rw [List.getD_eq_getElem?_getD, List.getElem?_eq_getElem h]; rfl
  show (if ((zs.take i).any (· == zs.getD i Str.empty)) = true then _ else _) = _
  rw [e]
  by_cases hm : zs[i] ∈ zs.take i
  · rw [if_pos hm]
    have h1 : ((zs.take i).any fun x => x == zs[i]) = true := List.any_eq_true.mpr ⟨zs[i], hm, beq_self_eq_true _⟩
    exact if_pos h1
  · rw [if_neg hm]
    refine if_neg fun h2 => ?_
    obtain ⟨y, hy, ey⟩ := List.any_eq_true.mp h2
    rw [beq_iff_eq.mp ey] at hy
    exact hm hy
theorem uq_pos {zs : List Str} : ∀ i : Nat, 1 ≤ i → i ≤ zs.length → 1 ≤ HV.uq zs i
  | 0, h, _ => by omega
  | i + 1, _, h => by
    rw [uq_step (by omega)]
    split
    · rename_i hm
      cases i with
      | zero => rw [List.take_zero] at hm; cases hm
      | succ i => exact uq_pos (i + 1) (by omega) (by omega)
    · omega
theorem uq_same {zs : List Str} {z : Str} (h : ∀ x ∈ zs, x = z) : ∀ i : Nat, i ≤ zs.length → HV.uq zs i ≤ 1
  | 0, _ => Nat.zero_le _
  | i + 1, hi => by
    have ih := uq_same h i (by omega)
    rw [uq_step (by omega)]
    split
    · exact ih
    · rename_i hm
      cases i with
      | zero => exact Nat.le_refl _
      | succ i =>
        exfalso
        refine hm ?_
        have e1 := h zs[i + 1] (List.getElem_mem _)
        have e0 := h zs[0] (List.getElem_mem (by omega))
        rw [e1, ← e0]
        have : zs.take (i + 1) = zs[0] :: (zs.take (i + 1)).tail := by
          cases zs with
          | nil => simp at hi
          | cons a b => rfl
        rw [this]
        exact List.mem_cons_self ..
theorem uq_all1 {zs : List Str} : ∀ i : Nat, i ≤ zs.length → HV.uq zs i ≤ 1 → ∀ x ∈ zs.take i, ∀ y ∈ zs.take i, x = y
  | 0, _, _ => by
    intro x hx
    rw [List.take_zero] at hx
    cases hx
  | i + 1, hi, hu => by
    have e2 : zs.take (i + 1) = zs.take i ++ [zs[i]] := by rw [List.take_add_one, List.getElem?_eq_getElem (by omega)]; rfl
    rw [uq_step (by omega)] at hu
    by_cases hm : zs[i] ∈ zs.take i
    · rw [if_pos hm] at hu
      have ih := uq_all1 i (by omega) hu
      have all : ∀ x ∈ zs.take (i + 1), x ∈ zs.take i := fun x hx => by
        rw [e2] at hx
        rcases List.mem_append.mp hx with hx | hx
        · exact hx
        · rw [List.mem_singleton.mp hx]; exact hm
      exact fun x hx y hy => ih x (all x hx) y (all y hy)
    · rw [if_neg hm] at hu
      have i0 : i = 0 := by
        cases i with
        | zero => rfl
        | succ i =>
          have := uq_pos (zs := zs) (i + 1) (by omega) (by omega)
          omega
      subst i0
      intro x hx y hy
      rw [e2, List.take_zero, List.nil_append] at hx hy
      rw [List.mem_singleton.mp hx, List.mem_singleton.mp hy]
theorem set_one {zs : List Str} {z : Str} : (decide (HV.uq zs zs.length = 1) && zs.any (· == z)) = decide (zs ≠ [] ∧ ∀ x ∈ zs, x = z) := by
  rw [Bool.eq_iff_iff, Bool.and_eq_true, decide_eq_true_eq, decide_eq_true_eq, List.any_eq_true]
  constructor
  · rintro ⟨h1, y, hy, ey⟩
    have ey := beq_iff_eq.mp ey
    subst ey
    refine ⟨(fun e => by rw [e] at hy; cases hy), fun x hx => ?_⟩
    have := uq_all1 zs.length (Nat.le_refl _) (by omega) x (by rwa [List.take_length]) y (by rwa [List.take_length])
    exact this
  · rintro ⟨h1, h2⟩
    have hl : 1 ≤ zs.length := by
      cases zs with
      | nil => exact absurd rfl h1
      | cons a b => exact Nat.succ_le_succ (Nat.zero_le _)
    have a1 := uq_same h2 zs.length (Nat.le_refl _)
    have a2 := uq_pos zs.length hl (Nat.le_refl _)
    refine ⟨by omega, z, ?_, beq_self_eq_true z⟩
    have e0 := h2 zs[0] (List.getElem_mem (by omega))
    rw [← e0]
    exact List.getElem_mem _
end TP
namespace TP
open PySem PySem.Spec PyProof.Rows L2 HX HB HG HU HH HD HS HV HQ HK HN HJ TL HM HP HR HO HC HF
/-! ### a Lone, as it stands -/
structure LoAt (H : Hp) (C L S T B : Addr) (s : Ls) : Prop where
  ex : ∃ dx, H L = some (.ins C dx [("store", .ref S), ("said", .ref T), ("hour", .int s.now), ("basket", .ref B)])
  hS : H S = some (.dK (dI s.cells))
  hT : H T = some (.lst (s.told.map V.int))
  hB : H B = some (.dK (dI s.words))
  n : L ≠ S ∧ L ≠ T ∧ L ≠ B ∧ S ≠ T ∧ S ≠ B ∧ T ≠ B
section
variable {K : PySem.W.Frag} {H H' : Hp} {C L S T B : Addr} {s s' : Ls}
theorem LoAt.same (g : LoAt H C L S T B s) (k : Same H H') : LoAt H' C L S T B s := by
  obtain ⟨dx, h⟩ := g.ex
  exact ⟨⟨dx, k _ _ h⟩, k _ _ g.hS, k _ _ g.hT, k _ _ g.hB, g.n⟩
theorem LoAt.sqt (g : LoAt H C L S T B s) (u : But [L, S, T, B] H H') {x : Addr} {xs : List V} (h : SqT K H x xs) : SqT K H' x xs := by
  obtain ⟨dx, h1⟩ := g.ex
  refine u.sqt (fun y hy => ?_) h
  simp only [List.mem_cons, List.not_mem_nil, or_false] at hy
  rcases hy with rfl | rfl | rfl | rfl
  · exact ⟨_, h1, (fun _ z => by cases z), fun _ _ z => by cases z⟩
  · exact ⟨_, g.hS, (fun _ z => by cases z), fun _ _ z => by cases z⟩
  · exact ⟨_, g.hT, (fun _ z => by cases z), fun _ _ z => by cases z⟩
  · exact ⟨_, g.hB, (fun _ z => by cases z), fun _ _ z => by cases z⟩
theorem LoAt.setB (g : LoAt H C L S T B s) {ws : List (Str × Int)} : LoAt (upd H B (.dK (dI ws))) C L S T B { s with words := ws } := by
  obtain ⟨⟨dx, h1⟩, h2, h3, h4, n1, n2, n3, n4, n5, n6⟩ := g
  exact ⟨⟨dx, by rw [upd_ne n3]; exact h1⟩, by rw [upd_ne n5]; exact h2, by rw [upd_ne n6]; exact h3, upd_same, n1, n2, n3, n4, n5, n6⟩
theorem LoAt.setS (g : LoAt H C L S T B s) {ws : List (Str × Int)} : LoAt (upd H S (.dK (dI ws))) C L S T B { s with cells := ws } := by
  obtain ⟨⟨dx, h1⟩, h2, h3, h4, n1, n2, n3, n4, n5, n6⟩ := g
  exact ⟨⟨dx, by rw [upd_ne n1]; exact h1⟩, upd_same, by rw [upd_ne n4.symm]; exact h3, by rw [upd_ne n5.symm]; exact h4, n1, n2, n3, n4, n5, n6⟩
theorem LoAt.setT (g : LoAt H C L S T B s) {ws : List Int} : LoAt (upd H T (.lst (ws.map V.int))) C L S T B { s with told := ws } := by
  obtain ⟨⟨dx, h1⟩, h2, h3, h4, n1, n2, n3, n4, n5, n6⟩ := g
  exact ⟨⟨dx, by rw [upd_ne n2]; exact h1⟩, by rw [upd_ne n4]; exact h2, upd_same, by rw [upd_ne n6.symm]; exact h4, n1, n2, n3, n4, n5, n6⟩
theorem LoAt.setH (g : LoAt H C L S T B s) {dx : Addr} {i : Int} : LoAt (upd H L (.ins C dx [("store", .ref S), ("said", .ref T), ("hour", .int i), ("basket", .ref B)])) C L S T B { s with now := i } := by
  obtain ⟨_, h2, h3, h4, n1, n2, n3, n4, n5, n6⟩ := g
  exact ⟨⟨dx, upd_same⟩, by rw [upd_ne n1.symm]; exact h2, by rw [upd_ne n2.symm]; exact h3, by rw [upd_ne n3.symm]; exact h4, n1, n2, n3, n4, n5, n6⟩
theorem LoAt.steps (g : LoAt H C L S T B s) {k : Nat} : LoAt H C L S T B { s with steps := k } := ⟨g.ex, g.hS, g.hT, g.hB, g.n⟩
theorem LoAt.dp (g : LoAt H C L S T B s) (u : But [L, S, T, B] H H') {v : V} {x : PyData} (t : tupD x = true) (h : Dp K H v x) : Dp K H' v x := dp_keep (fun _ _ h => g.sqt u h) t h
end
theorem tupAll_in : ∀ {xs : List PyData} {x : PyData}, tupAll xs = true → x ∈ xs → tupD x = true
  | y :: ys, x, h, hx => by
    have h : (tupD y && tupAll ys) = true := h
    rw [Bool.and_eq_true] at h
    rcases List.mem_cons.mp hx with rfl | hx
    · exact h.1
    · exact tupAll_in h.2 hx
theorem strsT_lay : ∀ zs : List Str, (∀ z ∈ zs, isNameL z = true) → PyData.canLayAll0 (zs.map .str) = true
  | [], _ => rfl
  | z :: zs, h => by
    have h1 : PyData.canLay0 (.str z) = true := SeqAt.canLay_of_shaped ((Good.str (Low.of (h z (List.mem_cons_self ..))) 0).shaped (by decide))
    simp only [List.map_cons, PyData.canLayAll0, h1, strsT_lay zs fun y hy => h y (List.mem_cons_of_mem _ hy), Bool.and_self]
theorem strsT_depth : ∀ zs : List Str, PyData.depthAll (zs.map .str) = 0
  | [] => rfl
  | z :: zs => by simp only [List.map_cons, PyData.depthAll, PyData.depth, strsT_depth zs, Nat.max_self]
theorem shaped_strsT {zs : List Str} (h : ∀ z ∈ zs, isNameL z = true) : SeqAt.shaped (.tuple (zs.map .str)) = true := by
  show (PyData.canLay0 (.tuple (zs.map .str)) && decide (PyData.depth (.tuple (zs.map .str)) ≤ 64)) = true
  simp only [PyData.canLay0, PyData.depth, strsT_lay zs h, strsT_depth zs]
  decide
theorem eqv_nilT (zs : List Str) : PyData.eqv (.tuple (zs.map .str)) (.tuple []) = decide (zs = []) := by
  cases zs with
  | nil => rfl
  | cons z zs => rfl
theorem dp_strsT {K : PySem.W.Frag} {H : Hp} {t : Addr} {zs : List Str} (h : SqT K H t (zs.map V.str)) : Dp K H (.ref t) (.tuple (zs.map .str)) := .tup h (dp_strs zs)
/-- faults != () -/
theorem t_ne0 {K : PySem.W.Frag} {H : Hp} {σ : L2.St} {i : Nat} {t : Addr} {zs : List Str} {Q : Bool → Hp → Prop} (hi : σ[i]? = some (some (.ref t))) (hn : ∀ z ∈ zs, isNameL z = true) (h : SqT K H t (zs.map V.str)) (q : ∀ H', Same H H' → Q (!decide (zs = [])) H') : tTest (tOp (rNeD K) (tVar i) (tTup tNil)) σ H Q := by
  refine ⟨_, hi, Nat.zero_le _, fun e ne => ?_⟩
  obtain ⟨s1, d1⟩ := new_tup (K := K) ne .nil
  refine ⟨_, _, dp_strsT (s1.sqt h), d1, shaped_strsT hn, rfl, _, rfl, ?_⟩
  rw [eqv_nilT]
  exact q _ s1
/-- a calc, deep or not, that grows by a known measure -/
structure Clx (x : PyData) : Prop where
  cal : isCalcD x = true
  dep : x.depth ≤ 50
  tup : tupD x = true
  bd : ∀ (ws : List (Str × Int)) (M : Nat), 10 ^ 41 ≤ M → (∀ q ∈ ws, q.2.natAbs ≤ M) → (wD ws x).natAbs ≤ 4 * M
theorem cost_ok {x : PyData} (h : Clx x) {K : PySem.W.Frag} {H : Hp} {v : V} (d : Dp K H v x) : CA K H 52 v (cOf x) := ca_of 52 x v (Nat.le_trans h.dep (by decide)) h.cal d
theorem small7 {n : Nat} (h : n < 10 ^ 7) : n < sizeLine := by rw [sizeLine_eq]; omega
section
variable {P : Program} {w : World} {K : PySem.W.Frag} {mg : Str → Option Value} {base : Heap}
def spDop (K : PySem.W.Frag) (C : Addr) : Sp := fun vs H Q _ => ∃ (L S T B a : Addr) (s : Ls) (cn W ln hn : List Str) (n : Nat) (z : Str) (ds : List PyData), vs = [.ref L, .str z, .ref a] ∧ LoAt H C L S T B s ∧ LsOk cn s ∧ Dp K H (.ref a) (.tuple (.str z :: ds)) ∧ Do Clx W cn ln hn n (.tuple (.str z :: ds)) ∧ z ∈ plainW ∧ s.steps < 10 ^ 7 ∧ cn.length ≤ 1000 ∧
  ∀ H', LoAt H' C L S T B (plainR z ds s) → But [L, S, T, B] H H' → Q .non H'
theorem ok_dop (T : Tp K w mg) : FnOk P w K mg base CX0 54 T.f_dop T.fd_dop ["self", "word", "row"] (spDop K T.C_Lone) := by
  refine T.D_dop.ok sc_dop (fun vs H Q E h => ?_) (fun cdv A outer st H vs Q E hr h => ?_)
  · obtain ⟨L, S, T', B, a, s, cn, W, ln, hn, n, z, ds, rfl, _⟩ := h
    rfl
  · obtain ⟨L, S, T', B, a, s, cn, W, ln, hn, n, z, ds, rfl, g, lk, hd, hdo, hz, hst, hcn, q⟩ := h
    have hu := hu_of hr
    refine ⟨_, (pss_one (ps_if (pt_cmpR op_eq (pv 1) pe_str (nomark _))
  (pss_one (ps_dput hu (pe_fld (pv 0) rfl) (pe_ix ix_tup (pv 2) pe_int (fun _ _ => rfl)) (pcall T.D_worth (ok_worth T 52) (hr.mono (by omega)) (by rfl) (pa_cons (pe_ix ix_tup (pv 2) pe_int (fun _ _ => rfl)) (pa_cons (pe_fld (pv 0) rfl) pa_nil))) rfl))
  (pss_one (ps_if (pt_cmpR op_eq (pv 1) pe_str (nomark _))
  (pss_one (ps_dput hu (pe_fld (pv 0) rfl) (pe_ix ix_tup (pv 2) pe_int (fun _ _ => rfl)) (pe_dget hu (pe_fld (pv 0) rfl) (pe_ix ix_tup (pv 2) pe_int (fun _ _ => rfl)) (fun _ _ => rfl)) rfl))
  (pss_one (ps_if (pt_cmpR op_eq (pv 1) pe_str (nomark _))
  (pss_one (ps_dput hu (pe_fld (pv 0) rfl) (pe_ix ix_tup (pv 2) pe_int (fun _ _ => rfl)) (pcall T.D_worth (ok_worth T 52) (hr.mono (by omega)) (by rfl) (pa_cons (pe_ix ix_tup (pv 2) pe_int (fun _ _ => rfl)) (pa_cons (pe_fld (pv 0) rfl) pa_nil))) rfl))
  (pss_one (ps_if (pt_cmpR op_eq (pv 1) pe_str (nomark _))
  (pss_one (ps_expr (pe_bm PySem.F.plainAttrs_list PySem.F.slot_list_append PySem.F.type_list_append mt_append (pe_fld (pv 0) rfl) (pa_cons (pcall T.D_worth (ok_worth T 52) (hr.mono (by omega)) (by rfl) (pa_cons (pe_ix ix_tup (pv 2) pe_int (fun _ _ => rfl)) (pa_cons (pe_fld (pv 0) rfl) pa_nil))) pa_nil))))
  (pss_one (ps_fldaug (pv 0) (pe_ix ix_tup (pv 2) pe_int (fun _ _ => rfl)) in_add)))))))))), ?_⟩
    obtain ⟨a', xs, ea, hx, hall⟩ := dp_tup hd
    cases ea
    obtain ⟨dx, hL⟩ := g.ex
    have no : ∀ {z' : Str}, z = z' → z' ∉ plainW → False := fun e h => h (e ▸ hz)
    have fB : ∀ {H1 : Hp} {Q1 : VK}, Same H H1 → Q1 (.ref B) H1 → tFld K (tVar 0) "basket" [some (.ref L), some (.str z), some (.ref a)] H1 Q1 := fun s1 k => ⟨_, rfl, L, T.C_Lone, dx, _, .ref B, rfl, s1 _ _ hL, T.cl_Lone, T.na_Lone_basket, rfl, k⟩
    have fS : ∀ {H1 : Hp} {Q1 : VK}, Same H H1 → Q1 (.ref S) H1 → tFld K (tVar 0) "store" [some (.ref L), some (.str z), some (.ref a)] H1 Q1 := fun s1 k => ⟨_, rfl, L, T.C_Lone, dx, _, .ref S, rfl, s1 _ _ hL, T.cl_Lone, T.na_Lone_store, rfl, k⟩
    have fT : ∀ {H1 : Hp} {Q1 : VK}, Same H H1 → Q1 (.ref T') H1 → tFld K (tVar 0) "said" [some (.ref L), some (.str z), some (.ref a)] H1 Q1 := fun s1 k => ⟨_, rfl, L, T.C_Lone, dx, _, .ref T', rfl, s1 _ _ hL, T.cl_Lone, T.na_Lone_said, rfl, k⟩
    have ix : ∀ {j : Nat} {v : V} {H1 : Hp} {Q1 : VK}, xs[j]? = some v → Same H H1 → Q1 v H1 → tOp (rIxT K) (tVar 2) (tC (.int (j : Int))) [some (.ref L), some (.str z), some (.ref a)] H1 Q1 := fun e s1 k => ⟨_, rfl, a, _, _, _, rfl, rfl, s1.sqt hx, atI_nat e, k⟩
    have wl : s.words.length < sizeLine := small7 (by have := lk.wl; omega)
    have dl : (dI s.words).length < sizeLine := by unfold dI; rw [List.length_map]; exact wl
    have cl : (dI s.cells).length < sizeLine := by
      have e : s.cells.length = cn.length := by rw [← lk.ck, List.length_map]
      unfold dI
      rw [List.length_map, e]
      exact small1000 hcn
    have bu : ∀ {H1 : Hp} {x : Addr} {o : HO}, Same H H1 → x ∈ [L, S, T', B] → But [L, S, T', B] H (upd H1 x o) := fun s1 hm => But.set (fun x o h _ => s1 x o h) hm
    cases hdo with
    | put h1 h2 =>
      cases hall with
      | cons d0 t => cases t with
        | cons d1 t => cases t with
          | cons d2 t =>
            cases t
            cases d0
            cases d1
            refine ⟨_, rfl, rfl, _, rfl, iteT (ix (j := 2) rfl (Same.refl H) (fB (Same.refl H) ⟨_, _, B, s.words, rfl, cost_ok h2 d2, g.hB, fun H1 s1 => fB s1 (ix (j := 1) rfl s1 ⟨B, _, rfl, DPut.k (k := Sum.inr _) (s1 _ _ g.hB) dl, nx_ ?_⟩)⟩))⟩
            rw [putI_dI]
            exact q _ (g.same s1).setB (bu s1 (by simp))
    | read h1 h2 =>
      rename_i n0 nm z2
      obtain ⟨i, hi⟩ := look_mem (l := s.cells) (z := z2) (by rw [lk.ck]; exact h2)
      have dg : DGet H S (.str z2) (some (.int i)) := by
        have := DGet.k (k := Sum.inr z2) g.hS
        rw [look_val, hi] at this
        exact this
      cases hall with
      | cons d0 t => cases t with
        | cons d1 t => cases t with
          | cons d2 t =>
            cases t
            cases d0
            cases d1
            cases d2
            refine ⟨_, rfl, rfl, _, rfl, iteF ⟨_, rfl, rfl, _, rfl, iteT ⟨_, rfl, L, T.C_Lone, dx, _, .ref S, rfl, hL, T.cl_Lone, T.na_Lone_store, rfl, ix (j := 2) rfl (Same.refl H) ⟨S, _, rfl, dg, fB (Same.refl H) (ix (j := 1) rfl (Same.refl H) ⟨B, _, rfl, DPut.k (k := Sum.inr _) g.hB dl, nx_ ?_⟩)⟩⟩⟩⟩
            rw [putI_dI]
            have e : plainR "read" [.str nm, .str z2] s = { s with words := putI s.words nm i } := by
              show ({ s with words := putI s.words nm ((look s.cells z2).getD 0) } : Ls) = _
              rw [hi]
              rfl
            rw [e] at q
            exact q _ g.setB (bu (Same.refl H) (by simp))
    | write h1 h2 =>
      cases hall with
      | cons d0 t => cases t with
        | cons d1 t => cases t with
          | cons d2 t =>
            cases t
            cases d0
            cases d1
            refine ⟨_, rfl, rfl, _, rfl, iteF ⟨_, rfl, rfl, _, rfl, iteF ⟨_, rfl, rfl, _, rfl, iteT (ix (j := 2) rfl (Same.refl H) (fB (Same.refl H) ⟨_, _, B, s.words, rfl, cost_ok h2 d2, g.hB, fun H1 s1 => fS s1 (ix (j := 1) rfl s1 ⟨S, _, rfl, DPut.k (k := Sum.inr _) (s1 _ _ g.hS) cl, nx_ ?_⟩)⟩))⟩⟩⟩
            rw [putI_dI]
            exact q _ (g.same s1).setS (bu s1 (by simp))
    | tell h1 =>
      rename_i n0 c0
      cases hall with
      | cons d0 t => cases t with
        | cons d1 t =>
          cases t
          cases d0
          refine ⟨_, rfl, rfl, _, rfl, iteF ⟨_, rfl, rfl, _, rfl, iteF ⟨_, rfl, rfl, _, rfl, iteF ⟨_, rfl, rfl, _, rfl, iteT ⟨_, rfl, L, T.C_Lone, dx, _, .ref T', rfl, hL, T.cl_Lone, T.na_Lone_said, rfl, .inl ⟨rfl, _, sl g.hT⟩, ix (j := 1) rfl (Same.refl H) (fB (Same.refl H) ⟨_, _, B, s.words, rfl, cost_ok h1 d1, g.hB, fun H1 s1 => ⟨T', _, _, rfl, rfl, s1 _ _ g.hT, by rw [List.length_map]; exact small7 (by have := lk.tl; omega), nx_ ?_⟩⟩)⟩⟩⟩⟩⟩
          have e : s.told.map V.int ++ [V.int (wD s.words c0)] = (s.told ++ [wD s.words c0]).map V.int := by rw [List.map_append]; rfl
          have := (g.same s1).setT (ws := s.told ++ [wD s.words c0])
          rw [← e] at this
          exact q _ this (bu s1 (by simp))
    | rest h1 h2 =>
      cases hall with
      | cons d0 t => cases t with
        | cons d1 t =>
          cases t
          cases d0
          cases d1
          refine ⟨_, rfl, rfl, _, rfl, iteF ⟨_, rfl, rfl, _, rfl, iteF ⟨_, rfl, rfl, _, rfl, iteF ⟨_, rfl, rfl, _, rfl, iteF ⟨_, rfl, L, T.C_Lone, dx, _, .int s.now, rfl, hL, T.cl_Lone, T.na_Lone_hour, rfl, ix (j := 1) rfl (Same.refl H) ⟨_, _, rfl, rfl, dx, _, hL, by show 4 < 1000; decide, nx_ ?_⟩⟩⟩⟩⟩⟩
          exact q _ g.setH (bu (Same.refl H) (by simp))
    | _ => exact absurd hz (by decide +kernel)
/-! ### rows and bodies -/
def spDob (K : PySem.W.Frag) (C : Addr) (n : Nat) : Sp := fun vs H Q _ => ∃ (L S T B : Addr) (v : V) (s : Ls) (cn W ln hn : List Str) (rows : List PyData), vs = [.ref L, v] ∧ LoAt H C L S T B s ∧ LsOk cn s ∧ Dp K H v (.tuple rows) ∧ tupAll rows = true ∧ (∀ x ∈ rows, Do Clx W cn ln hn n x) ∧ NoW W ∧ s.steps + costB n rows < 10 ^ 7 ∧ cn.length ≤ 1000 ∧
  ∀ t H', LoAt H' C L S T B (runB (runR n) rows s).2 → SqT K H' t ((runB (runR n) rows s).1.map V.str) → But [L, S, T, B] H H' → Q (.ref t) H'
def spDor (K : PySem.W.Frag) (C : Addr) (n : Nat) : Sp := fun vs H Q _ => ∃ (L S T B : Addr) (v : V) (s : Ls) (cn W ln hn : List Str) (row : PyData), vs = [.ref L, v] ∧ LoAt H C L S T B s ∧ LsOk cn s ∧ Dp K H v row ∧ tupD row = true ∧ Do Clx W cn ln hn n row ∧ NoW W ∧ s.steps + costR n row < 10 ^ 7 ∧ cn.length ≤ 1000 ∧
  ∀ t H', LoAt H' C L S T B (runR n row s).2 → SqT K H' t ((runR n row s).1.map V.str) → But [L, S, T, B] H H' → Q (.ref t) H'
theorem ok_dob1 (T : Tp K w mg) {n k : Nat} (ih : FnOk P w K mg base CX0 k T.f_dor T.fd_dor ["self", "row"] (spDor K T.C_Lone n)) : FnOk P w K mg base CX0 (k + 1) T.f_dob T.fd_dob ["self", "body"] (spDob K T.C_Lone n) := by
  refine T.D_dob.ok sc_dob (fun vs H Q E h => ?_) (fun cdv A outer st H vs Q E hr h => ?_)
  · obtain ⟨L, S, T', B, v, s, cn, W, ln, hn, rows, rfl, _⟩ := h
    rfl
  · obtain ⟨L, S, T', B, v, s, cn, W, ln, hn, rows, rfl, g, lk, hd, htu, hdo, hW, hst, hcn, q⟩ := h
    have hu := hu_of hr
    refine ⟨_, (pss_cons (ps_for PassesOwn.never rfl (pi_tup (pv 1)) (pg_name (i := 2) sc_dob.nd rfl (.inl rfl))
  (pss_cons (ps_set (i := 3) sc_dob.nd rfl (.inl rfl) (pe_meth (pv 0) T.cl_Lone T.m_dor ih (hr.mono (by omega)) T.b_dor .nil pass0 (pa_cons (pv 2) pa_nil)))
  (pss_one (ps_if (pt_cmpR (op_neD hr.units) (pv 3) (pe_tup pa_nil) (nomark _))
  (pss_one (ps_ret (pv 3)))
  pss_nil))))
  (pss_one (ps_ret (pe_tup pa_nil)))), ?_⟩
    obtain ⟨a, xs, rfl, hx, hall⟩ := dp_tup hd
    have hlen : xs.length = rows.length := dpAll_len hall
    have ekeep : ∀ {H1 : Hp}, But [L, S, T', B] H H1 → SqT K H1 a xs := fun b => g.sqt b hx
    refine ⟨_, rfl, a, rfl, ⟨_, hx⟩, for_it (walk_tup (xs := xs)) (fun i σ H1 => ∃ (y2 y3 : Option V) (si : Ls), σ = [some (.ref L), some (.ref a), y2, y3] ∧ LoAt H1 T.C_Lone L S T' B si ∧ LsOk cn si ∧ But [L, S, T', B] H H1 ∧ runB (runR n) rows s = runB (runR n) (rows.drop i) si ∧ si.steps + costB n (rows.drop i) < 10 ^ 7) ?_ (fun i σ H1 _ gg => by obtain ⟨_, _, _, _, _, _, b, _⟩ := gg; exact ekeep b) ?_ ?_⟩
    · exact ⟨none, none, s, rfl, g, lk, But.refl H, rfl, hst⟩
    · rintro i x σ H0 H1 hi ⟨y2, y3, si, rfl, g1, lk1, b1, er, hs1⟩ ⟨rfl, gx⟩
      have hir : i < rows.length := by omega
      have edrop : rows.drop i = rows[i] :: rows.drop (i + 1) := List.drop_eq_getElem_cons hir
      rw [edrop] at er hs1
      obtain ⟨v, ev, hv⟩ := dp_at hall (i := i) (d := rows[i]) (List.getElem?_eq_getElem hir)
      rw [ev] at gx
      cases gx
      have hmem := List.getElem_mem hir
      have hdi := hdo _ hmem
      have htup : tupD rows[i] = true := tupAll_in htu hmem
      have hc : costB n (rows[i] :: rows.drop (i + 1)) = costR n rows[i] + costB n (rows.drop (i + 1)) := by unfold costB; rw [List.map_cons, List.sum_cons]
      rw [hc] at hs1
      have hstep := run_steps hW n _ hdi si
      obtain ⟨dx1, hL1⟩ := g1.ex
      refine ⟨_, rfl, L, dx1, _, rfl, hL1, rfl, _, rfl, L, S, T', B, _, si, cn, W, ln, hn, rows[i], rfl, g1, lk1, g.dp b1 htup hv, htup, hdi, hW, by omega, hcn, fun t H2 g2 ht b2 => ?_⟩
      have b12 := b1.trans b2
      refine t_ne0 (i := 3) rfl (run_nm hW n _ hdi si) ht fun H3 s3 => ite2 (fun hne => ?_) (fun he => ?_)
      · have hne : ¬ (runR n rows[i] si).1 = [] := by simpa using hne
        have e2 : runB (runR n) (rows[i] :: rows.drop (i + 1)) si = runR n rows[i] si := by
          show (if (runR n rows[i] si).1 = [] then runB (runR n) (rows.drop (i + 1)) (runR n rows[i] si).2 else runR n rows[i] si) = _
          rw [if_neg hne]
        rw [er, e2] at q
        exact ⟨_, rfl, q t H3 (g2.same s3) (s3.sqt ht) (b12.trans fun x o h _ => s3 x o h)⟩
      · have he : (runR n rows[i] si).1 = [] := by simpa using he
        have e2 : runB (runR n) (rows[i] :: rows.drop (i + 1)) si = runB (runR n) (rows.drop (i + 1)) (runR n rows[i] si).2 := by
          show (if (runR n rows[i] si).1 = [] then runB (runR n) (rows.drop (i + 1)) (runR n rows[i] si).2 else runR n rows[i] si) = _
          rw [if_pos he]
        exact ⟨_, _, (runR n rows[i] si).2, rfl, g2.same s3, (run_ok hW n _ hdi si lk1).ok, b12.trans (fun x o h _ => s3 x o h), er.trans e2, by omega⟩
    · rintro σ H1 ⟨y2, y3, si, rfl, g1, lk1, b1, er, hs1⟩
      rw [hlen, List.drop_length] at er
      rw [er] at q
      refine ⟨Nat.zero_le _, fun p np => ?_⟩
      have s1 := same_upd (o := .tup []) np
      exact q p _ (g1.same s1) (stt upd_same) (b1.trans fun x o h _ => s1 x o h)
end
end TP
namespace TP
open PySem PySem.Spec PyProof.Rows L2 HX HB HG HU HH HD HS HV HQ HK HN HJ TL HM HP HR HO HC HF
theorem Do.shape {C : PyData → Prop} {W cn ln hn : List Str} {n : Nat} {row : PyData} (h : Do C W cn ln hn n row) : ∃ m z ds, n = m + 1 ∧ row = .tuple (.str z :: ds) := by
  cases h <;> exact ⟨_, _, _, rfl, rfl⟩
theorem op_ {r : R2} {ta tb : TE} {σ : L2.St} {H : Hp} {Q : VK} (h : ta σ H fun x H1 => tb σ H1 fun y H2 => r x y H2 Q) : tOp r ta tb σ H Q := h
theorem cb_ {r : List V → Hp → VK → Prop} {t : TA} {σ : L2.St} {H : Hp} {Q : VK} (h : t σ H fun vs H1 => r vs H1 Q) : tCB r t σ H Q := h
theorem cons_ {ta : TE} {tr : TA} {σ : L2.St} {H : Hp} {Q : List V → Hp → Prop} (h : ta σ H fun x H1 => tr σ H1 fun xs H2 => Q (x :: xs) H2) : tCons ta tr σ H Q := h
theorem asg_ {te : TE} {gt : TG} {D : Ends} {σ : L2.St} {H : Hp} (h : te σ H fun x H1 => gt x σ H1 D.nx) : tAsg te gt D σ H := h
theorem if_' {t : TT} {ta tb : TE} {σ : L2.St} {H : Hp} {Q : VK} (h : t σ H fun c H1 => if c = true then ta σ H1 Q else tb σ H1 Q) : tIf t ta tb σ H Q := h
theorem cat_strs {K : PySem.W.Frag} {H : Hp} {a b : Addr} {p r : List Str} {Q : VK} (ha : SqT K H a (p.map V.str)) (hb : SqT K H b (r.map V.str)) (l : p.length + r.length ≤ sizeLine) (q : ∀ c H', Same H H' → SqT K H' c ((p ++ r).map V.str) → Q (.ref c) H') : HT2.rCatA K (.ref a) (.ref b) H Q := by
  refine ⟨_, _, _, _, rfl, rfl, ha, hb, by rw [List.length_map, List.length_map]; exact l, fun e => ?_, fun n e => ?_, fun n1 n2 p np => ?_⟩
  · have e : p = [] := List.map_eq_nil_iff.mp e
    subst e
    exact q _ H (Same.refl H) hb
  · have e : r = [] := List.map_eq_nil_iff.mp e
    subst e
    exact q _ H (Same.refl H) (by rw [List.append_nil]; exact ha)
  · exact q p _ (same_upd np) (stt (by rw [upd_same, List.map_append]))
theorem strs_low {zs : List Str} (h : ∀ z ∈ zs, isNameL z = true) : ∀ d ∈ zs.map PyData.str, d.depth ≤ 60 := strs_depth zs
section
variable {P : Program} {w : World} {K : PySem.W.Frag} {mg : Str → Option Value} {base : Heap}
theorem ok_dor1 (T : Tp K w mg) {n k : Nat} (hk : 54 ≤ k) (hn11 : n ≤ 11) (ih : FnOk P w K mg base CX0 k T.f_dob T.fd_dob ["self", "body"] (spDob K T.C_Lone n)) : FnOk P w K mg base CX0 (k + 1) T.f_dor T.fd_dor ["self", "row"] (spDor K T.C_Lone (n + 1)) := by
  refine HAC.Fun.okC T.D_dor sc_dor (fun vs H Q E h => ?_) (fun cdv A outer st H vs Q E hcd hr h => ?_)
  · obtain ⟨L, S, T', B, v, s, cn, W, ln, hn, row, rfl, _⟩ := h
    rfl
  · obtain ⟨L, S, T', B, v, s, cn, W, ln, hn, row, rfl, g, lk, hd, htu, hdo, hW, hst, hcn, q⟩ := h
    have hu := hu_of hr
    refine ⟨_, (pss_cons (ps_set (i := 2) sc_dor.nd rfl (.inl rfl) (pe_ix ix_tup (pv 1) pe_int (fun _ _ => rfl)))
  (pss_cons (ps_if (pt_cmpR op_in_seq (pv 2) (pe_tup (pa_cons pe_str (pa_cons pe_str (pa_cons pe_str (pa_cons pe_str (pa_cons pe_str pa_nil)))))) (by rfl))
  (pss_cons (ps_expr (pe_meth (pv 0) T.cl_Lone T.m_dop (ok_dop T) (hr.mono (by omega)) T.b_dop .nil pass0 (pa_cons (pv 2) (pa_cons (pv 1) pa_nil))))
  (pss_one (ps_ret (pe_tup pa_nil))))
  pss_nil)
  (pss_cons (ps_if (pt_cmpR op_eq (pv 2) pe_str (nomark _))
  (pss_one (ps_ret (pe_tup (pa_cons (pe_ix ix_tup (pv 1) pe_int (fun _ _ => rfl)) pa_nil))))
  pss_nil)
  (pss_cons (ps_if (pt_cmpR op_eq (pv 2) pe_str (nomark _))
  (pss_one (ps_ret (pe_callTy call_tuple_of (by rfl) T.tuple (by decide +kernel) (pa_cons (pe_callB (HAC.cr_sortDT hr.units) (by rfl) T.sorted (by decide +kernel) (pa_cons (pe_op HT2.op_catA (pe_meth (pv 0) T.cl_Lone T.m_dob ih (hr.mono (by omega)) T.b_dob .nil pass0 (pa_cons (pe_ix ix_tup (pv 1) pe_int (fun _ _ => rfl)) pa_nil)) (pe_meth (pv 0) T.cl_Lone T.m_dob ih (hr.mono (by omega)) T.b_dob .nil pass0 (pa_cons (pe_ix ix_tup (pv 1) pe_int (fun _ _ => rfl)) pa_nil))) pa_nil)) pa_nil))))
  pss_nil)
  (pss_cons (ps_if (pt_cmpR op_eq (pv 2) pe_str (nomark _))
  (pss_cons (ps_set (i := 3) sc_dor.nd rfl (.inl rfl) (pe_meth (pv 0) T.cl_Lone T.m_dob ih (hr.mono (by omega)) T.b_dob .nil pass0 (pa_cons (pe_ix ix_tup (pv 1) pe_int (fun _ _ => rfl)) pa_nil)))
  (pss_one (ps_ret (pe_ifExp (pt_cmpR (HAC.op_eqSet1 (Nat.lt_of_le_of_lt (Nat.le_add_right _ _) hr.units)) (pe_callTy (HAC.call_setT rfl) (by rfl) T.set (by decide +kernel) (pa_cons (pv 3) pa_nil)) (HAC.pe_set1 (pe_ix ix_tup (pv 1) pe_int (fun _ _ => rfl)) hcd) (nomark _)) (pe_meth (pv 0) T.cl_Lone T.m_dob ih (hr.mono (by omega)) T.b_dob .nil pass0 (pa_cons (pe_ix ix_tup (pv 1) pe_int (fun _ _ => rfl)) pa_nil)) (pv 3)))))
  pss_nil)
  (pss_cons (ps_if (pt_cmpR op_eq (pv 2) pe_str (nomark _))
  (pss_one (ps_ret (pe_meth (pv 0) T.cl_Lone T.m_dob ih (hr.mono (by omega)) T.b_dob .nil pass0 (pa_cons (pe_ifExp (pt_cmpR op_ne (pcall T.D_worth (ok_worth T 52) (hr.mono (by omega)) (by rfl) (pa_cons (pe_ix ix_tup (pv 1) pe_int (fun _ _ => rfl)) (pa_cons (pe_fld (pv 0) rfl) pa_nil))) pe_int (nomark _)) (pe_ix ix_tup (pv 1) pe_int (fun _ _ => rfl)) (pe_ix ix_tup (pv 1) pe_int (fun _ _ => rfl))) pa_nil))))
  pss_nil)
  (pss_cons (ps_if (pt_cmpR op_eq (pv 2) pe_str (nomark _))
  (pss_cons (ps_for PassesOwn.never rfl (pi_range1 (by rfl) T.range (pa_cons (pe_ix ix_tup (pv 1) pe_int (fun _ _ => rfl)) pa_nil)) (pg_name (i := 4) sc_dor.nd rfl (.inl rfl))
  (pss_cons (ps_set (i := 3) sc_dor.nd rfl (.inl rfl) (pe_meth (pv 0) T.cl_Lone T.m_dob ih (hr.mono (by omega)) T.b_dob .nil pass0 (pa_cons (pe_ix ix_tup (pv 1) pe_int (fun _ _ => rfl)) pa_nil)))
  (pss_one (ps_if (pt_cmpR (op_neD hr.units) (pv 3) (pe_tup pa_nil) (nomark _))
  (pss_one (ps_ret (pv 3)))
  pss_nil))))
  (pss_one (ps_ret (pe_tup pa_nil))))
  pss_nil)
  (pss_one (ps_ret (pe_meth (pv 0) T.cl_Lone T.m_dob ih (hr.mono (by omega)) T.b_dob .nil pass0 (pa_cons (pe_ix ix_tup (pv 1) (pe_un un_neg pe_int) (fun _ _ => rfl)) pa_nil))))))))))), ?_⟩
    obtain ⟨m, z, ds, em, rfl⟩ := hdo.shape
    cases em
    obtain ⟨a, xs, rfl, hx, hall⟩ := dp_tup hd
    obtain ⟨dx, hL⟩ := g.ex
    have gu : LoAt H T.C_Lone L S T' B (upS s) := g.steps
    have lku : LsOk cn (upS s) := ⟨Nat.le_succ_of_le lk.tl, Nat.le_succ_of_le lk.wl, lk.ck⟩
    have e1 : (upS s).steps = s.steps + 1 := rfl
    have ec : costR (n + 1) (.tuple (.str z :: ds)) = 1 + 3 * ((bodiesD (.tuple (.str z :: ds))).map fun b => ((rowsD b).map (costR n)).sum).sum := rfl
    have hx0 : ∃ xr, xs = .str z :: xr ∧ DpAll K H xr ds := by
      cases hall with
      | cons d0 t => cases d0; exact ⟨_, rfl, t⟩
    obtain ⟨xr, rfl, hxr⟩ := hx0
    refine ⟨_, rfl, a, _, _, _, rfl, rfl, hx, atI_nat (j := 0) rfl, ?_⟩
    refine ⟨_, rfl, by show 5 ≤ sizeLine; decide, fun e ne => ?_⟩
    have t1 := same_upd (o := .tup [.str "put", .str "read", .str "write", .str "tell", .str "rest"]) ne
    have he : (upd H e (.tup [.str "put", .str "read", .str "write", .str "tell", .str "rest"])) e = some (.tup [.str "put", .str "read", .str "write", .str "tell", .str "rest"]) := upd_same
    generalize upd H e (.tup [.str "put", .str "read", .str "write", .str "tell", .str "rest"]) = H1 at t1 he ⊢
    refine ⟨e, plainW.map V.str, rfl, .inr (stt he), rfl, flat_strs _, _, rfl, ?_⟩
    rw [if_neg Bool.false_ne_true, inV_strs]
    refine ite2 (fun hz => ?_) (fun hz => nx_ ?_)
    · have hz : z ∈ plainW := of_decide_eq_true hz
      have er : runR (n + 1) (.tuple (.str z :: ds)) s = ([], plainR z ds (upS s)) := if_pos hz
      rw [er] at q
      refine ⟨_, rfl, L, dx, _, rfl, t1 _ _ hL, rfl, _, rfl, _, rfl, L, S, T', B, a, upS s, cn, W, ln, hn, n + 1, z, ds, rfl, gu.same t1, lku, t1.dp hd, hdo, hz, by omega, hcn, fun H2 g2 b2 => ?_⟩
      refine ⟨Nat.zero_le _, fun p np => ?_⟩
      exact q p _ (g2.same (same_upd np)) (stt upd_same) ((But.trans (fun x o h _ => t1 x o h) b2).trans fun x o h _ => same_upd np x o h)
    have hz : z ∉ plainW := fun h => hz (decide_eq_true h)
    have er : runR (n + 1) (.tuple (.str z :: ds)) s = deepR (runB (runR n)) z ds (upS s) := if_neg hz
    rw [er] at q
    have g1 := gu.same t1
    have hx1 := t1.sqt hx
    have hxr1 := t1.dpAll hxr
    have b01 : But [L, S, T', B] H H1 := fun x o h _ => t1 x o h
    have hL1 := t1 _ _ hL
    clear hz he ne hx hxr hall hd er
    have call : ∀ {σ : L2.St} {H2 : Hp} {si : Ls} {v : V} {rows : List PyData} {te : TE} {Q2 : VK}, σ[0]? = some (some (.ref L)) → LoAt H2 T.C_Lone L S T' B si → LsOk cn si → (∀ Q3 : VK, Q3 v H2 → te σ H2 Q3) → Dp K H2 v (.tuple rows) → tupAll rows = true → (∀ x ∈ rows, Do Clx W cn ln hn n x) → si.steps + costB n rows < 10 ^ 7 → (∀ t H3, LoAt H3 T.C_Lone L S T' B (runB (runR n) rows si).2 → SqT K H3 t ((runB (runR n) rows si).1.map V.str) → But [L, S, T', B] H2 H3 → Q2 (.ref t) H3) → tMeth T.C_Lone "do_body" (spDob K T.C_Lone n) [] E0 (tVar 0) (tCons te tNil) σ H2 Q2 := fun h0 g2 lk2 ht hv htu' hd2 hs2 k => by
      obtain ⟨dx2, hL2⟩ := g2.ex
      exact ⟨_, h0, L, dx2, _, rfl, hL2, rfl, ht _ ⟨L, S, T', B, _, _, cn, W, ln, hn, _, rfl, g2, lk2, hv, htu', hd2, hW, hs2, hcn, k⟩⟩
    have htup : tupAll ds = true := by
      have htu : (true && tupAll ds) = true := htu
      rwa [Bool.true_and] at htu
    cases hdo with
    | put h1 h2 => exact absurd (by decide +kernel) hz
    | read h1 h2 => exact absurd (by decide +kernel) hz
    | write h1 h2 => exact absurd (by decide +kernel) hz
    | tell h1 => exact absurd (by decide +kernel) hz
    | rest h1 h2 => exact absurd (by decide +kernel) hz
    | send h1 => exact absurd h1 hW.1
    | take h1 => exact absurd h1 hW.2.1
    | off h1 => exact absurd h1 hW.2.2
    | fail h1 =>
      cases hxr1 with
      | cons d1 t =>
        cases t
        cases d1
        refine ⟨_, rfl, rfl, _, rfl, iteT ⟨_, rfl, a, _, _, _, rfl, rfl, hx1, atI_nat (j := 1) rfl, by show 1 ≤ sizeLine; decide, fun p np => ?_⟩⟩
        exact q p _ (g1.same (same_upd np)) (stt upd_same) (b01.trans fun x o h _ => same_upd np x o h)
    | hold hm hb =>
      rename_i nm rows
      have ec' : costR (n + 1) (.tuple [.str "hold", .str nm, .tuple rows]) = 1 + 3 * (costB n rows + 0) := rfl
      cases hxr1 with
      | cons d1 t => cases t with
        | cons d2 t =>
          cases t
          exact ⟨_, rfl, rfl, _, rfl, iteF (nx_ ⟨_, rfl, rfl, _, rfl, iteF (nx_ ⟨_, rfl, rfl, _, rfl, iteF (nx_ ⟨_, rfl, rfl, _, rfl, iteF (nx_ ⟨_, rfl, rfl, _, rfl, iteF (nx_ (call rfl g1 lku (fun Q3 k => ⟨_, rfl, _, rfl, a, _, _, _, rfl, rfl, hx1, rfl, k⟩) d2 (tupAll_in htup (x := .tuple rows) (by simp)) hb (by omega) fun t H3 g3 ht b3 => q t H3 g3 ht (b01.trans b3)))⟩)⟩)⟩)⟩)⟩
    | nest hm hb =>
      rename_i nm rows
      have ec' : costR (n + 1) (.tuple [.str "nest", .str nm, .tuple rows]) = 1 + 3 * (costB n rows + 0) := rfl
      cases hxr1 with
      | cons d1 t => cases t with
        | cons d2 t =>
          cases t
          exact ⟨_, rfl, rfl, _, rfl, iteF (nx_ ⟨_, rfl, rfl, _, rfl, iteF (nx_ ⟨_, rfl, rfl, _, rfl, iteF (nx_ ⟨_, rfl, rfl, _, rfl, iteF (nx_ ⟨_, rfl, rfl, _, rfl, iteF (nx_ (call rfl g1 lku (fun Q3 k => ⟨_, rfl, _, rfl, a, _, _, _, rfl, rfl, hx1, rfl, k⟩) d2 (tupAll_in htup (x := .tuple rows) (by simp)) hb (by omega) fun t H3 g3 ht b3 => q t H3 g3 ht (b01.trans b3)))⟩)⟩)⟩)⟩)⟩
    | within hm1 hm2 hm3 hm4 hb =>
      rename_i i nm rows
      have ec' : costR (n + 1) (.tuple [.str "within", .int i, .str nm, .tuple rows]) = 1 + 3 * (costB n rows + 0) := rfl
      cases hxr1 with
      | cons d1 t => cases t with
        | cons d2 t => cases t with
          | cons d3 t =>
            cases t
            exact ⟨_, rfl, rfl, _, rfl, iteF (nx_ ⟨_, rfl, rfl, _, rfl, iteF (nx_ ⟨_, rfl, rfl, _, rfl, iteF (nx_ ⟨_, rfl, rfl, _, rfl, iteF (nx_ ⟨_, rfl, rfl, _, rfl, iteF (nx_ (call rfl g1 lku (fun Q3 k => ⟨_, rfl, _, rfl, a, _, _, _, rfl, rfl, hx1, rfl, k⟩) d3 (tupAll_in htup (x := .tuple rows) (by simp)) hb (by omega) fun t H3 g3 ht b3 => q t H3 g3 ht (b01.trans b3)))⟩)⟩)⟩)⟩)⟩
    | start hm1 hm2 hb =>
      rename_i nm rows
      have ec' : costR (n + 1) (.tuple [.str "start", .str nm, .tuple rows]) = 1 + 3 * (costB n rows + 0) := rfl
      cases hxr1 with
      | cons d1 t => cases t with
        | cons d2 t =>
          cases t
          exact ⟨_, rfl, rfl, _, rfl, iteF (nx_ ⟨_, rfl, rfl, _, rfl, iteF (nx_ ⟨_, rfl, rfl, _, rfl, iteF (nx_ ⟨_, rfl, rfl, _, rfl, iteF (nx_ ⟨_, rfl, rfl, _, rfl, iteF (nx_ (call rfl g1 lku (fun Q3 k => ⟨_, rfl, _, rfl, a, _, _, _, rfl, rfl, hx1, rfl, k⟩) d2 (tupAll_in htup (x := .tuple rows) (by simp)) hb (by omega) fun t H3 g3 ht b3 => q t H3 g3 ht (b01.trans b3)))⟩)⟩)⟩)⟩)⟩
    | shield hb =>
      rename_i rows
      have ec' : costR (n + 1) (.tuple [.str "shield", .tuple rows]) = 1 + 3 * (costB n rows + 0) := rfl
      cases hxr1 with
      | cons d1 t =>
        cases t
        exact ⟨_, rfl, rfl, _, rfl, iteF (nx_ ⟨_, rfl, rfl, _, rfl, iteF (nx_ ⟨_, rfl, rfl, _, rfl, iteF (nx_ ⟨_, rfl, rfl, _, rfl, iteF (nx_ ⟨_, rfl, rfl, _, rfl, iteF (nx_ (call rfl g1 lku (fun Q3 k => ⟨_, rfl, _, rfl, a, _, _, _, rfl, rfl, hx1, rfl, k⟩) d1 (tupAll_in htup (x := .tuple rows) (by simp)) hb (by omega) fun t H3 g3 ht b3 => q t H3 g3 ht (b01.trans b3)))⟩)⟩)⟩)⟩)⟩
    | try_ h1 h2 =>
      rename_i rows rows2
      have ec' : costR (n + 1) (.tuple [.str "try", .tuple rows, .tuple rows2]) = 1 + 3 * (costB n rows + (costB n rows2 + 0)) := rfl
      cases hxr1 with
      | cons d1 t => cases t with
        | cons d2 t =>
          cases t
          refine ⟨_, rfl, rfl, _, rfl, iteF (nx_ ⟨_, rfl, rfl, _, rfl, iteT (one_ret (cb_ (cons_ (cb_ (cons_ (op_ (call rfl g1 lku (fun Q3 k => ⟨_, rfl, a, _, _, _, rfl, rfl, hx1, atI_nat (j := 1) rfl, k⟩) d1 (tupAll_in htup (x := .tuple rows) (by simp)) h1 (by omega) fun t1 H3 g3 ht3 b3 => ?_)))))))⟩)⟩
          have k1 := (runB_ok hW n rows h1 (upS s) lku).ok
          have c1 := runB_stepsD hW n rows h1 (upS s)
          have n1 := runB_nm hW n rows h1 (upS s)
          have n2 := runB_nm hW n rows2 h2 (runB (runR n) rows (upS s)).2
          have t2' : tupAll rows2 = true := tupAll_in htup (x := .tuple rows2) (by simp)
          refine call rfl g3 k1 (fun Q3 k => ⟨_, rfl, a, _, _, _, rfl, rfl, g1.sqt b3 hx1, atI_nat (j := 2) rfl, k⟩) (g1.dp b3 (show tupD (.tuple rows2) = true from t2') d2) t2' h2 (by omega) fun t2 H4 g4 ht4 b4 => ?_
          have ht3' := g3.sqt b4 ht3
          have l1 := runB_lenD hW n rows h1 (upS s)
          have l2 := runB_lenD hW n rows2 h2 (runB (runR n) rows (upS s)).2
          have c2 := runB_stepsD hW n rows2 h2 (runB (runR n) rows (upS s)).2
          refine cat_strs ht3' ht4 (Nat.le_of_lt (small7 (by omega))) fun t3 H5 s5 ht5 => ?_
          refine ⟨t3, _, _, rfl, ht5, dp_strs _, strs_alike _, strs_sortable _, strs_depth _, fun p np => ?_⟩
          rw [srt_eq]
          have s6 := same_upd (o := .lst ((srt ((runB (runR n) rows (upS s)).1 ++ (runB (runR n) rows2 (runB (runR n) rows (upS s)).2).1)).map V.str)) np
          have hp6 : (upd H5 p (.lst ((srt ((runB (runR n) rows (upS s)).1 ++ (runB (runR n) rows2 (runB (runR n) rows (upS s)).2).1)).map V.str))) p = some (.lst ((srt ((runB (runR n) rows (upS s)).1 ++ (runB (runR n) rows2 (runB (runR n) rows (upS s)).2).1)).map V.str)) := upd_same
          generalize upd H5 p (.lst ((srt ((runB (runR n) rows (upS s)).1 ++ (runB (runR n) rows2 (runB (runR n) rows (upS s)).2).1)).map V.str)) = H6 at s6 hp6 ⊢
          refine ⟨p, _, rfl, .inl ⟨sl hp6, fun l nl => ?_⟩⟩
          have s7 := (s5.trans s6).trans (same_upd (o := .tup ((srt ((runB (runR n) rows (upS s)).1 ++ (runB (runR n) rows2 (runB (runR n) rows (upS s)).2).1)).map V.str)) nl)
          exact q l _ (g4.same s7) (stt upd_same) (((b01.trans b3).trans b4).trans fun x o h _ => s7 x o h)
    | catch_ hn' h1 h2 =>
      rename_i nm rows rows2
      have ec' : costR (n + 1) (.tuple [.str "catch", .tuple rows, .str nm, .tuple rows2]) = 1 + 3 * (costB n rows + (costB n rows2 + 0)) := rfl
      cases hxr1 with
      | cons d1 t => cases t with
        | cons d2 t => cases t with
          | cons d3 t =>
            cases t
            cases d2
            refine ⟨_, rfl, rfl, _, rfl, iteF (nx_ ⟨_, rfl, rfl, _, rfl, iteF (nx_ ⟨_, rfl, rfl, _, rfl, iteT (seq_ (asg_ (call rfl g1 lku (fun Q3 k => ⟨_, rfl, a, _, _, _, rfl, rfl, hx1, atI_nat (j := 1) rfl, k⟩) d1 (tupAll_in htup (x := .tuple rows) (by simp)) h1 (by omega) fun t1 H3 g3 ht3 b3 => ?_)))⟩)⟩)⟩
            have k1 := (runB_ok hW n rows h1 (upS s) lku).ok
            have c1 := runB_stepsD hW n rows h1 (upS s)
            have n1 := runB_nm hW n rows h1 (upS s)
            have l1 := runB_lenD hW n rows h1 (upS s)
            have t2' : tupAll rows2 = true := tupAll_in htup (x := .tuple rows2) (by simp)
            have hx3 := g1.sqt b3 hx1
            have d33 := g1.dp b3 (show tupD (.tuple rows2) = true from t2') d3
            refine ⟨_, rfl, t1, _, rfl, ht3, ?_, fun p np => ?_⟩
            · have h1 := runB_powD hW n rows h1 (upS s)
              have h2 : 2 ^ n ≤ 2 ^ 11 := Nat.pow_le_pow_right (by decide) hn11
              have h3 : 2 ^ 11 = 2048 := rfl
              omega
            -- {name}
            have s4 := same_upd (o := HAC.SetS P w p (fun k => (runB (runR n) rows (upS s)).1.any (· == k)) (HV.uq (runB (runR n) rows (upS s)).1 (runB (runR n) rows (upS s)).1.length)) np
            have hp4 : (upd H3 p (HAC.SetS P w p (fun k => (runB (runR n) rows (upS s)).1.any (· == k)) (HV.uq (runB (runR n) rows (upS s)).1 (runB (runR n) rows (upS s)).1.length))) p = some (HAC.SetS P w p (fun k => (runB (runR n) rows (upS s)).1.any (· == k)) (HV.uq (runB (runR n) rows (upS s)).1 (runB (runR n) rows (upS s)).1.length)) := upd_same
            refine fun p2 np2 => ?_
            have np2 : (upd H3 p (HAC.SetS P w p (fun k => (runB (runR n) rows (upS s)).1.any (· == k)) (HV.uq (runB (runR n) rows (upS s)).1 (runB (runR n) rows (upS s)).1.length))) p2 = none := np2
            have s5 := s4.trans (same_upd (o := HAC.SetS P w p2 (fun _ => false) 0) np2)
            have pn : p2 ≠ p := fun e => by rw [e, hp4] at np2; cases np2
            have np2' := s4.free np2
            refine ⟨_, rfl, a, _, _, _, rfl, rfl, s5.sqt hx3, atI_nat (j := 2) rfl, upd_same, nm, rfl, ?_⟩
            have s6 := s5.own (o := HAC.SetS P w p2 (fun k => decide (k = nm)) 1) np2'
            refine ⟨p, p2, fun k => (runB (runR n) rows (upS s)).1.any (· == k), HV.uq (runB (runR n) rows (upS s)).1 (runB (runR n) rows (upS s)).1.length, nm, rfl, rfl, ?_, upd_same, _, rfl, ?_⟩
            · rw [upd_ne pn.symm]
              exact (same_upd np2) _ _ hp4
            rw [set_one]
            have eC : deepR (runB (runR n)) "catch" [.tuple rows, .str nm, .tuple rows2] (upS s) = if (runB (runR n) rows (upS s)).1 ≠ [] ∧ ∀ x ∈ (runB (runR n) rows (upS s)).1, x = nm then runB (runR n) rows2 (runB (runR n) rows (upS s)).2 else runB (runR n) rows (upS s) := rfl
            rw [eC] at q
            have b36 : But [L, S, T', B] H3 _ := fun x o h _ => s6 x o h
            refine ite2 (fun hc => ?_) (fun hc => ?_)
            · rw [if_pos (of_decide_eq_true hc)] at q
              refine call rfl (g3.same s6) k1 (fun Q3 k => ⟨_, rfl, a, _, _, _, rfl, rfl, s6.sqt hx3, atI_nat (j := 3) rfl, k⟩) (s6.dp d33) t2' h2 (by omega) fun t2 H4 g4 ht4 b4 => ?_
              exact q t2 H4 g4 ht4 (((b01.trans b3).trans b36).trans b4)
            · rw [if_neg (fun h => hc (decide_eq_true h))] at q
              exact ⟨_, rfl, q t1 _ (g3.same s6) (s6.sqt ht3) ((b01.trans b3).trans b36)⟩
    | if_ hc h1 h2 =>
      rename_i c rows rows2
      have ec' : costR (n + 1) (.tuple [.str "if", c, .tuple rows, .tuple rows2]) = 1 + 3 * (costB n rows + (costB n rows2 + 0)) := rfl
      cases hxr1 with
      | cons d1 t => cases t with
        | cons d2 t => cases t with
          | cons d3 t =>
            cases t
            have eI : deepR (runB (runR n)) "if" [c, .tuple rows, .tuple rows2] (upS s) = if wD (upS s).words c ≠ 0 then runB (runR n) rows (upS s) else runB (runR n) rows2 (upS s) := rfl
            rw [eI] at q
            refine ⟨_, rfl, rfl, _, rfl, iteF (nx_ ⟨_, rfl, rfl, _, rfl, iteF (nx_ ⟨_, rfl, rfl, _, rfl, iteF (nx_ ⟨_, rfl, rfl, _, rfl, iteT (one_ret ⟨_, rfl, L, dx, _, rfl, hL1, rfl, cons_ (if_' ⟨_, rfl, a, _, _, _, rfl, rfl, hx1, atI_nat (j := 1) rfl, _, rfl, L, T.C_Lone, dx, _, .ref B, rfl, hL1, T.cl_Lone, T.na_Lone_basket, rfl, _, _, B, (upS s).words, rfl, cost_ok hc d1, g1.hB, fun H3 s3 => ⟨rfl, _, rfl, ?_⟩⟩)⟩)⟩)⟩)⟩)⟩
            have t1' : tupAll rows = true := tupAll_in htup (x := .tuple rows) (by simp)
            have t2' : tupAll rows2 = true := tupAll_in htup (x := .tuple rows2) (by simp)
            have ed : decide (V.int (Calc.worth (upS s).words (cOf c)) = V.int 0) = decide (wD (upS s).words c = 0) := decide_eq_decide.mpr ⟨fun h => V.int.inj h, fun h => congrArg V.int h⟩
            rw [ed]
            have b13 : But [L, S, T', B] H1 H3 := fun x o h _ => s3 x o h
            refine ite2 (fun hw => ?_) (fun hw => ?_)
            · have hw : wD (upS s).words c ≠ 0 := by simpa using hw
              rw [if_pos hw] at q
              exact ⟨_, rfl, a, _, _, _, rfl, rfl, s3.sqt hx1, atI_nat (j := 2) rfl, L, S, T', B, _, upS s, cn, W, ln, hn, rows, rfl, g1.same s3, lku, s3.dp d2, t1', h1, hW, by omega, hcn, fun t H4 g4 ht b4 => q t H4 g4 ht ((b01.trans b13).trans b4)⟩
            · have hw : wD (upS s).words c = 0 := by simpa using hw
              rw [if_neg (fun h => h hw)] at q
              exact ⟨_, rfl, a, _, _, _, rfl, rfl, s3.sqt hx1, atI_nat (j := 3) rfl, L, S, T', B, _, upS s, cn, W, ln, hn, rows2, rfl, g1.same s3, lku, s3.dp d3, t2', h2, hW, by omega, hcn, fun t H4 g4 ht b4 => q t H4 g4 ht ((b01.trans b13).trans b4)⟩
    | often i0 i1 h1 =>
      rename_i i rows
      have ec' : costR (n + 1) (.tuple [.str "often", .int i, .tuple rows]) = 1 + 3 * (costB n rows + 0) := rfl
      cases hxr1 with
      | cons d1 t => cases t with
        | cons d2 t =>
          cases t
          cases d1
          have eO : deepR (runB (runR n)) "often" [.int i, .tuple rows] (upS s) = loopB (runB (runR n) rows) i.toNat (upS s) := rfl
          rw [eO] at q
          have t1' : tupAll rows = true := tupAll_in htup (x := .tuple rows) (by simp)
          refine ⟨_, rfl, rfl, _, rfl, iteF (nx_ ⟨_, rfl, rfl, _, rfl, iteF (nx_ ⟨_, rfl, rfl, _, rfl, iteF (nx_ ⟨_, rfl, rfl, _, rfl, iteF (nx_ ⟨_, rfl, rfl, _, rfl, iteT (seq_ ⟨_, rfl, a, _, _, _, rfl, rfl, hx1, atI_nat (j := 1) rfl, i, rfl, by omega, by omega, for_range (lo := 0) (n := i.toNat) (fun j σ H4 => ∃ (y3 y4 : Option V) (si : Ls), σ = [some (.ref L), some (.ref a), some (.str "often"), y3, y4] ∧ LoAt H4 T.C_Lone L S T' B si ∧ LsOk cn si ∧ But [L, S, T', B] H1 H4 ∧ loopB (runB (runR n) rows) i.toNat (upS s) = loopB (runB (runR n) rows) (i.toNat - j) si ∧ si.steps ≤ (upS s).steps + j * costB n rows) ?_ ?_ ?_⟩)⟩)⟩)⟩)⟩)⟩
          · exact ⟨none, none, upS s, rfl, g1, lku, But.refl H1, rfl, by omega⟩
          · rintro j σ H4 hj ⟨y3, y4, si, rfl, g4, lk4, b4, el, hs4⟩
            have hj3 : j * costB n rows ≤ 2 * costB n rows := Nat.mul_le_mul_right _ (by omega)
            have ej : i.toNat - j = (i.toNat - (j + 1)) + 1 := by omega
            rw [ej] at el
            have el2 : loopB (runB (runR n) rows) ((i.toNat - (j + 1)) + 1) si = if (runB (runR n) rows si).1 = [] then loopB (runB (runR n) rows) (i.toNat - (j + 1)) (runB (runR n) rows si).2 else runB (runR n) rows si := rfl
            rw [el2] at el
            refine asg_ (call rfl g4 lk4 (fun Q3 k => ⟨_, rfl, a, _, _, _, rfl, rfl, g1.sqt b4 hx1, atI_nat (j := 2) rfl, k⟩) (g1.dp b4 (show tupD (.tuple rows) = true from t1') d2) t1' h1 (by omega) fun t2 H5 g5 ht5 b5 => ?_)
            refine t_ne0 (i := 3) rfl (runB_nm hW n rows h1 si) ht5 fun H6 s6 => ite2 (fun hne => ?_) (fun he => ?_)
            · have hne : ¬ (runB (runR n) rows si).1 = [] := by simpa using hne
              rw [if_neg hne] at el
              rw [el] at q
              exact ⟨_, rfl, q t2 H6 (g5.same s6) (s6.sqt ht5) (((b01.trans b4).trans b5).trans fun x o h _ => s6 x o h)⟩
            · have he : (runB (runR n) rows si).1 = [] := by simpa using he
              rw [if_pos he] at el
              have c5 := runB_stepsD hW n rows h1 si
              exact ⟨_, _, _, rfl, g5.same s6, (runB_ok hW n rows h1 si lk4).ok, (b4.trans b5).trans (fun x o h _ => s6 x o h), el, by rw [Nat.succ_mul]; omega⟩
          · rintro σ H4 ⟨y3, y4, si, rfl, g4, lk4, b4, el, hs4⟩
            rw [Nat.sub_self] at el
            rw [el] at q
            refine ⟨Nat.zero_le _, fun p np => ?_⟩
            exact q p _ (g4.same (same_upd np)) (stt upd_same) ((b01.trans b4).trans fun x o h _ => same_upd np x o h)
end
end TP
namespace TP
open PySem PySem.Spec PyProof.Rows L2 HX HB HG HU HH HD HS HV HQ HK HN HJ TL HM HP HR HO HC HF
section
variable {P : Program} {w : World} {K : PySem.W.Frag} {mg : Str → Option Value} {base : Heap}
theorem ok_dob (T : Tp K w mg) : ∀ n, n ≤ 11 → FnOk P w K mg base CX0 (56 + 2 * n) T.f_dob T.fd_dob ["self", "body"] (spDob K T.C_Lone n)
  | 0, _ => ok_dob1 (k := 55) T ⟨fun _ _ _ _ h => (by
      obtain ⟨L, S, T', B, v, s, cn, W, ln, hn, row, _, _, _, _, _, hdo, _⟩ := h
      cases hdo), fun _ _ _ _ _ _ _ _ _ _ _ _ _ h => (by
      obtain ⟨L, S, T', B, v, s, cn, W, ln, hn, row, _, _, _, _, _, hdo, _⟩ := h
      cases hdo)⟩
  | n + 1, hn => by
    have h := ok_dob T n (by omega)
    have h2 := ok_dor1 T (k := 56 + 2 * n) (by omega) (by omega) h
    have h3 := ok_dob1 T h2
    have e : 56 + 2 * (n + 1) = 56 + 2 * n + 1 + 1 := by omega
    rw [e]
    exact h3
def spLinit (C : Addr) : Sp := fun vs H Q _ => ∃ (p c dx : Addr) (cs : List (Str × Int)), vs = [.ref p, .ref c] ∧ H p = some (.ins C dx []) ∧ H c = some (.dK (dI cs)) ∧ p ≠ c ∧
  ∀ H' T B, LoAt H' C p c T B ⟨cs, [], [], 0, 0⟩ → H T = none → H B = none → (∀ b o, b ≠ p → H b = some o → H' b = some o) → Q .non H'
theorem ok_linit (T : Tp K w mg) : FnOk P w K mg base CX0 1 T.f_linit T.fd_linit ["self", "cells"] (spLinit T.C_Lone) := by
  refine T.D_linit.ok sc_linit (fun vs H Q E h => ?_) (fun cdv A outer st H vs Q E hr h => ?_)
  · obtain ⟨p, c, dx, cs, rfl, _⟩ := h
    rfl
  · obtain ⟨p, c, dx, cs, rfl, hp, hc, pc, q⟩ := h
    have hu := hu_of hr
    refine ⟨_, (pss_cons (ps_fld (pv 0) (pv 1) rfl)
  (pss_cons (ps_fld (pv 0) (pe_lst pa_nil) rfl)
  (pss_cons (ps_fld (pv 0) pe_int rfl)
  (pss_one (ps_fld (pv 0) pe_dnewK rfl))))), ?_⟩
    refine ⟨_, rfl, _, rfl, p, T.C_Lone, dx, _, rfl, hp, T.cl_Lone, T.na_Lone_store, by show 0 < 1000; decide, nx_ ?_⟩
    have e1 : putF "store" (V.ref c) [] = ([("store", .ref c)] : List (Str × V)) := rfl
    rw [e1]
    have h1 : (upd H p (.ins T.C_Lone dx [("store", .ref c)])) p = some (.ins T.C_Lone dx [("store", .ref c)]) := upd_same
    have k1 : ∀ b o, b ≠ p → H b = some o → (upd H p (.ins T.C_Lone dx [("store", .ref c)])) b = some o := fun b o n h => by rw [upd_ne n]; exact h
    have f1 : ∀ b, (upd H p (.ins T.C_Lone dx [("store", .ref c)])) b = none → H b = none := fun b h => by
      by_cases e : b = p
      · rw [e, h1] at h; cases h
      · rwa [upd_ne e] at h
    generalize upd H p (.ins T.C_Lone dx [("store", .ref c)]) = H1 at h1 k1 f1 ⊢
    refine ⟨Nat.zero_le _, fun t nt => ?_⟩
    have s2 := same_upd (o := .lst []) nt
    have ht2 : (upd H1 t (.lst [])) t = some (.lst []) := upd_same
    have f2 : ∀ b, (upd H1 t (.lst [])) b = none → H b = none := fun b h => f1 b (s2.free h)
    have tH := f1 t nt
    have tp : t ≠ p := fun e => by rw [e, h1] at nt; cases nt
    generalize upd H1 t (.lst []) = H2 at s2 ht2 f2 ⊢
    refine ⟨_, rfl, p, T.C_Lone, dx, _, rfl, s2 _ _ h1, T.cl_Lone, T.na_Lone_said, by show 1 < 1000; decide, nx_ ?_⟩
    have e3 : putF "said" (V.ref t) ([("store", .ref c)] : List (Str × V)) = ([("store", .ref c), ("said", .ref t)] : List (Str × V)) := rfl
    rw [e3]
    have h3 : (upd H2 p (.ins T.C_Lone dx [("store", .ref c), ("said", .ref t)])) p = some (.ins T.C_Lone dx [("store", .ref c), ("said", .ref t)]) := upd_same
    have k3 : ∀ b o, b ≠ p → H b = some o → (upd H2 p (.ins T.C_Lone dx [("store", .ref c), ("said", .ref t)])) b = some o := fun b o n h => by rw [upd_ne n]; exact s2 _ _ (k1 b o n h)
    have t3 : (upd H2 p (.ins T.C_Lone dx [("store", .ref c), ("said", .ref t)])) t = some (.lst []) := by rw [upd_ne tp]; exact ht2
    generalize upd H2 p (.ins T.C_Lone dx [("store", .ref c), ("said", .ref t)]) = H3 at h3 k3 t3 ⊢
    refine ⟨_, rfl, p, T.C_Lone, dx, _, rfl, h3, T.cl_Lone, T.na_Lone_hour, by show 2 < 1000; decide, nx_ ?_⟩
    have e4 : putF "hour" (V.int 0) ([("store", .ref c), ("said", .ref t)] : List (Str × V)) = ([("store", .ref c), ("said", .ref t), ("hour", .int 0)] : List (Str × V)) := rfl
    rw [e4]
    have h4 : (upd H3 p (.ins T.C_Lone dx [("store", .ref c), ("said", .ref t), ("hour", .int 0)])) p = some (.ins T.C_Lone dx [("store", .ref c), ("said", .ref t), ("hour", .int 0)]) := upd_same
    have k4 : ∀ b o, b ≠ p → H b = some o → (upd H3 p (.ins T.C_Lone dx [("store", .ref c), ("said", .ref t), ("hour", .int 0)])) b = some o := fun b o n h => by rw [upd_ne n]; exact k3 b o n h
    have t4 : (upd H3 p (.ins T.C_Lone dx [("store", .ref c), ("said", .ref t), ("hour", .int 0)])) t = some (.lst []) := by rw [upd_ne tp]; exact t3
    generalize upd H3 p (.ins T.C_Lone dx [("store", .ref c), ("said", .ref t), ("hour", .int 0)]) = H4 at h4 k4 t4 ⊢
    refine fun B nB => ?_
    have s5 := same_upd (o := .dK []) nB
    have hB5 : (upd H4 B (.dK [])) B = some (.dK []) := upd_same
    have Bp : B ≠ p := fun e => by rw [e, h4] at nB; cases nB
    have Bt : B ≠ t := fun e => by rw [e, t4] at nB; cases nB
    have Bc : B ≠ c := fun e => by rw [e, k4 c _ pc.symm hc] at nB; cases nB
    have tc : t ≠ c := fun e => by rw [e, hc] at tH; cases tH
    have BH : H B = none := by
      cases e : H B with
      | none => rfl
      | some o => rw [k4 B o Bp e] at nB; cases nB
    refine ⟨_, rfl, p, T.C_Lone, dx, _, rfl, s5 _ _ h4, T.cl_Lone, T.na_Lone_basket, by show 3 < 1000; decide, nx_ ?_⟩
    refine q _ t B ⟨⟨dx, upd_same⟩, ?_, ?_, ?_, pc, tp.symm, Bp.symm, tc.symm, Bc.symm, Bt.symm⟩ tH BH fun b o n h => ?_
    · rw [upd_ne pc.symm]; exact s5 _ _ (k4 c _ pc.symm hc)
    · rw [upd_ne tp]; exact s5 _ _ t4
    · rw [upd_ne Bp]; exact hB5
    · rw [upd_ne n]; exact s5 _ _ (k4 b o n h)
end
end TP
namespace TP
open PySem PySem.Spec PyProof.Rows L2 HX HB HG HU HH HD HS HV HQ HK HN HJ TL HM HP HR HO HC HF
section
variable {P : Program} {w : World} {K : PySem.W.Frag} {mg : Str → Option Value} {base : Heap}
def s0 (cs : List (Str × Int)) : Ls := ⟨cs, [], [], 0, 0⟩
def spLone (K : PySem.W.Frag) (C : Addr) : Sp := fun vs H Q _ => ∃ (H0 : Hp) (p : Addr) (cs : List (Str × Int)) (ls : List Str) (hs : List (Str × Int)) (rows : List PyData) (spots : List (List Int)) (W ln hn : List Str), vs = [.ref p] ∧ Pf K H0 H p C cs ls hs rows spots ∧ (∀ x ∈ rows, Do Clx W (cs.map (·.1)) ln hn 10 x) ∧ NoW W ∧ costB 10 rows < 10 ^ 7 ∧ cs.length ≤ 1000 ∧
  ∀ (t S' T' f : Addr) (H' : Hp), Same H H' → SqT K H' t [.ref f, .ref S', .ref T', .int (runB (runR 10) rows (s0 cs)).2.now] → SqT K H' f ((runB (runR 10) rows (s0 cs)).1.map V.str) → H' S' = some (.dK (dI (runB (runR 10) rows (s0 cs)).2.cells)) → H' T' = some (.lst ((runB (runR 10) rows (s0 cs)).2.told.map V.int)) → H S' = none → H T' = none → S' ≠ T' → Q (.ref t) H'
theorem ok_lone (T : Tp K w mg) : FnOk P w K mg base CX0 80 T.f_lone T.fd_lone ["program"] (spLone K T.C_Program) := by
  refine T.D_lone.F.ok sc_lone (fun vs H Q E h => ?_) (fun cdv A outer st H vs Q E hr h => ?_)
  · obtain ⟨H0, p, cs, ls, hs, rows, spots, W, ln, hn, rfl, _⟩ := h
    rfl
  · obtain ⟨H0, p, cs, ls, hs, rows, spots, W, ln, hn, rfl, g, hdo, hW, hco, hcs, q⟩ := h
    have hu := hu_of hr
    refine ⟨_, (pss_cons (ps_set (i := 1) sc_lone.nd rfl (.inl rfl) (pe_make T.mk_Lone (ok_linit T) (hr.mono (by omega)) (by rfl) T.gC_Lone T.b_linit .nil pass0 (pa_cons (pe_meth0 (pv 0) T.cl_Program T.m_pcells (ok_pcells T) (hr.mono (by omega)) T.b_pcells .nil pass0) pa_nil)))
  (pss_cons (ps_set (i := 2) sc_lone.nd rfl (.inl rfl) (pe_meth (pv 1) T.cl_Lone T.m_dob (ok_dob T 10 (by decide)) (hr.mono (by omega)) T.b_dob .nil pass0 (pa_cons (pe_meth0 (pv 0) T.cl_Program T.m_pbody (ok_pbody T) (hr.mono (by omega)) T.b_pbody .nil pass0) pa_nil)))
  (pss_one (ps_ret (pe_tup (pa_cons (pv 2) (pa_cons (pe_callTy call_dictC (by rfl) T.dict (by decide +kernel) (pa_cons (pe_fld (pv 1) rfl) pa_nil)) (pa_cons (pe_callTy call_list_of (by rfl) T.list (by decide +kernel) (pa_cons (pe_fld (pv 1) rfl) pa_nil)) (pa_cons (pe_fld (pv 1) rfl) pa_nil))))))))), ?_⟩
    obtain ⟨⟨pdx, ps, pf, pl, pw, b, pvs, hp, hb, _⟩, htu⟩ := id g
    refine ⟨_, rfl, p, pdx, _, rfl, hp, rfl, H0, p, cs, ls, hs, rows, spots, rfl, g, fun D nD => ?_⟩
    have s1 := same_upd (o := .dK (dI cs)) nD
    have hD : (upd H D (.dK (dI cs))) D = some (.dK (dI cs)) := upd_same
    generalize upd H D (.dK (dI cs)) = H1 at s1 hD ⊢
    refine fun x dx nx ndx nxd => ?_
    have sc : Same H1 (upd (upd H1 dx (.own x)) x (.ins T.C_Lone dx [])) := ((Same.refl H1).own ndx).own nx
    have xD : x ≠ D := fun e => by rw [e, hD] at nx; cases nx
    refine ⟨x, D, dx, cs, rfl, upd_same, sc _ _ hD, xD, fun H2 T2 B gl nT nB k => ⟨rfl, ?_⟩⟩
    have s12 : Same H1 H2 := fun b o h => k b o (fun e => by rw [e, nx] at h; cases h) (sc _ _ h)
    have xH : H x = none := s1.free nx
    have TH : H T2 = none := s1.free (sc.free nT)
    have BH : H B = none := s1.free (sc.free nB)
    have s02 := s1.trans s12
    obtain ⟨dxl, hL⟩ := gl.ex
    refine ⟨_, rfl, x, dxl, _, rfl, hL, rfl, _, rfl, p, pdx, _, rfl, s02 _ _ hp, rfl, H0, p, cs, ls, hs, rows, spots, rfl, g.same s02, fun v hv => ⟨x, D, T2, B, v, s0 cs, cs.map (·.1), W, ln, hn, rows, rfl, gl, ⟨Nat.le_refl _, Nat.le_refl _, rfl⟩, hv, htu, hdo, hW, by show 0 + costB 10 rows < 10 ^ 7; omega, by rw [List.length_map]; exact hcs, fun t H3 g3 ht b3 => ?_⟩⟩
    have s03 : Same H H3 := fun b o h => b3 b o (s02 b o h) (fun hm => by
      simp only [List.mem_cons, List.not_mem_nil, or_false] at hm
      rcases hm with e | e | e | e
      · rw [e, xH] at h; cases h
      · rw [e, nD] at h; cases h
      · rw [e, TH] at h; cases h
      · rw [e, BH] at h; cases h)
    generalize runB (runR 10) rows (s0 cs) = r at *
    obtain ⟨dx3, hL3⟩ := g3.ex
    refine ⟨_, rfl, _, rfl, x, T.C_Lone, dx3, _, .ref D, rfl, hL3, T.cl_Lone, T.na_Lone_store, rfl, D, _, rfl, .inl g3.hS, fun S' nS => ?_⟩
    have s4 := same_upd (o := .dK (dI r.2.cells)) nS
    have hS4 : (upd H3 S' (.dK (dI r.2.cells))) S' = some (.dK (dI r.2.cells)) := upd_same
    generalize upd H3 S' (.dK (dI r.2.cells)) = H4 at s4 hS4 ⊢
    refine ⟨_, rfl, x, T.C_Lone, dx3, _, .ref T2, rfl, s4 _ _ hL3, T.cl_Lone, T.na_Lone_said, rfl, T2, _, rfl, .inl (sl (s4 _ _ g3.hT)), fun l nl => ?_⟩
    have s5 := same_upd (o := .lst (r.2.told.map V.int)) nl
    have hl5 : (upd H4 l (.lst (r.2.told.map V.int))) l = some (.lst (r.2.told.map V.int)) := upd_same
    generalize upd H4 l (.lst (r.2.told.map V.int)) = H5 at s5 hl5 ⊢
    have s35 := s4.trans s5
    refine ⟨_, rfl, x, T.C_Lone, dx3, _, .int r.2.now, rfl, s35 _ _ hL3, T.cl_Lone, T.na_Lone_hour, rfl, by show 4 ≤ sizeLine; decide, fun tt ntt => ?_⟩
    have s6 := same_upd (o := .tup [.ref t, .ref S', .ref l, .int r.2.now]) ntt
    have s36 := s35.trans s6
    refine q tt S' l t _ (s03.trans s36) (stt upd_same) (s36.sqt ht) ((s5.trans s6) _ _ hS4) (s6 _ _ hl5) (s03.free nS) ((s03.trans s4).free nl) (fun e => by rw [← e, hS4] at nl; cases nl)
end
end TP
namespace TP
open PySem PySem.Spec PyProof.Rows L2 HX HB HG HU HH HD HS HV HQ HK HN HJ TL HM HP HR HO HC HF
/-! ### what the law holds while it does the rows -/
abbrev heL (S B T : Addr) (now steps : Int) : List (Key × V) := [(Sum.inr "cells", .ref S), (Sum.inr "words", .ref B), (Sum.inr "told", .ref T), (Sum.inr "now", .int now), (Sum.inr "steps", .int steps)]
structure HeAt (H : Hp) (d S B T : Addr) (s : Ls) : Prop where
  hd : H d = some (.dK (heL S B T s.now (1 + 2 * (s.steps : Int))))
  hS : H S = some (.dK (dI s.cells))
  hB : H B = some (.dK (dI s.words))
  hT : H T = some (.lst (s.told.map V.int))
  n : d ≠ S ∧ d ≠ B ∧ d ≠ T ∧ S ≠ B ∧ S ≠ T ∧ B ≠ T
section
variable {K : PySem.W.Frag} {H H' : Hp} {d S B T : Addr} {s s' : Ls}
theorem HeAt.same (g : HeAt H d S B T s) (k : Same H H') : HeAt H' d S B T s := ⟨k _ _ g.hd, k _ _ g.hS, k _ _ g.hB, k _ _ g.hT, g.n⟩
theorem HeAt.sqt (g : HeAt H d S B T s) (u : But [d, S, B, T] H H') {x : Addr} {xs : List V} (h : SqT K H x xs) : SqT K H' x xs := by
  refine u.sqt (fun y hy => ?_) h
  simp only [List.mem_cons, List.not_mem_nil, or_false] at hy
  rcases hy with rfl | rfl | rfl | rfl
  · exact ⟨_, g.hd, (fun _ z => by cases z), fun _ _ z => by cases z⟩
  · exact ⟨_, g.hS, (fun _ z => by cases z), fun _ _ z => by cases z⟩
  · exact ⟨_, g.hB, (fun _ z => by cases z), fun _ _ z => by cases z⟩
  · exact ⟨_, g.hT, (fun _ z => by cases z), fun _ _ z => by cases z⟩
theorem HeAt.dp (g : HeAt H d S B T s) (u : But [d, S, B, T] H H') {v : V} {x : PyData} (t : tupD x = true) (h : Dp K H v x) : Dp K H' v x := dp_keep (fun _ _ h => g.sqt u h) t h
theorem HeAt.setB (g : HeAt H d S B T s) {ws : List (Str × Int)} : HeAt (upd H B (.dK (dI ws))) d S B T { s with words := ws } := by
  obtain ⟨h1, h2, h3, h4, n1, n2, n3, n4, n5, n6⟩ := g
  exact ⟨by rw [upd_ne n2]; exact h1, by rw [upd_ne n4]; exact h2, upd_same, by rw [upd_ne n6.symm]; exact h4, n1, n2, n3, n4, n5, n6⟩
theorem HeAt.setS (g : HeAt H d S B T s) {ws : List (Str × Int)} : HeAt (upd H S (.dK (dI ws))) d S B T { s with cells := ws } := by
  obtain ⟨h1, h2, h3, h4, n1, n2, n3, n4, n5, n6⟩ := g
  exact ⟨by rw [upd_ne n1]; exact h1, upd_same, by rw [upd_ne n4.symm]; exact h3, by rw [upd_ne n5.symm]; exact h4, n1, n2, n3, n4, n5, n6⟩
theorem HeAt.setT (g : HeAt H d S B T s) {ws : List Int} : HeAt (upd H T (.lst (ws.map V.int))) d S B T { s with told := ws } := by
  obtain ⟨h1, h2, h3, h4, n1, n2, n3, n4, n5, n6⟩ := g
  exact ⟨by rw [upd_ne n3]; exact h1, by rw [upd_ne n5]; exact h2, by rw [upd_ne n6]; exact h3, upd_same, n1, n2, n3, n4, n5, n6⟩
theorem HeAt.setD (g : HeAt H d S B T s) {i : Int} {k : Nat} : HeAt (upd H d (.dK (heL S B T i (1 + 2 * (k : Int))))) d S B T { s with now := i, steps := k } := by
  obtain ⟨h1, h2, h3, h4, n1, n2, n3, n4, n5, n6⟩ := g
  exact ⟨upd_same, by rw [upd_ne n1.symm]; exact h2, by rw [upd_ne n2.symm]; exact h3, by rw [upd_ne n3.symm]; exact h4, n1, n2, n3, n4, n5, n6⟩
end
section
variable {P : Program} {w : World} {K : PySem.W.Frag} {mg : Str → Option Value} {base : Heap}
def spAlop (K : PySem.W.Frag) : Sp := fun vs H Q _ => ∃ (d S B T a : Addr) (s : Ls) (cn W ln hn : List Str) (n : Nat) (z : Str) (ds : List PyData), vs = [.ref a, .ref d] ∧ HeAt H d S B T s ∧ LsOk cn s ∧ Dp K H (.ref a) (.tuple (.str z :: ds)) ∧ Do Clx W cn ln hn n (.tuple (.str z :: ds)) ∧ z ∈ plainW ∧ s.steps < 10 ^ 7 ∧ cn.length ≤ 1000 ∧
  ∀ H', HeAt H' d S B T (plainR z ds s) → But [d, S, B, T] H H' → Q .non H'
theorem ok_alop (T : Tp K w mg) : FnOk P w K mg base CX0 54 T.f_alop T.fd_alop ["_law_row", "_law_held"] (spAlop K) := by
  refine T.D_alop.F.ok sc_alop (fun vs H Q E h => ?_) (fun cdv A outer st H vs Q E hr h => ?_)
  · obtain ⟨d, S, B, T', a, s, cn, W, ln, hn, n, z, ds, rfl, _⟩ := h
    rfl
  · obtain ⟨d, S, B, T', a, s, cn, W, ln, hn, n, z, ds, rfl, g, lk, hd, hdo, hz, hst, hcn, q⟩ := h
    have hu := hu_of hr
    refine ⟨_, (pss_one (ps_if (pt_cmpR op_eq (pe_ix ix_tup (pv 0) pe_int (fun _ _ => rfl)) pe_str (nomark _))
  (pss_one (ps_daug hu (pv 1) pe_str (pe_ix ix_tup (pv 0) pe_int (fun _ _ => rfl)) in_add (by intros; rfl)))
  (pss_one (ps_if (pt_cmpR op_eq (pe_ix ix_tup (pv 0) pe_int (fun _ _ => rfl)) pe_str (nomark _))
  (pss_one (ps_dput hu (pe_dget hu (pv 1) pe_str (fun _ _ => rfl)) (pe_ix ix_tup (pv 0) pe_int (fun _ _ => rfl)) (pe_dget hu (pe_dget hu (pv 1) pe_str (fun _ _ => rfl)) (pe_ix ix_tup (pv 0) pe_int (fun _ _ => rfl)) (fun _ _ => rfl)) rfl))
  (pss_one (ps_if (pt_cmpR op_eq (pe_ix ix_tup (pv 0) pe_int (fun _ _ => rfl)) pe_str (nomark _))
  (pss_one (ps_expr (pe_bm PySem.F.plainAttrs_list PySem.F.slot_list_append PySem.F.type_list_append mt_append (pe_dget hu (pv 1) pe_str (fun _ _ => rfl)) (pa_cons (pcall T.D_lworth (ok_lworth T 52) (hr.mono (by omega)) (by rfl) (pa_cons (pe_ix ix_tup (pv 0) pe_int (fun _ _ => rfl)) (pa_cons (pe_dget hu (pv 1) pe_str (fun _ _ => rfl)) pa_nil))) pa_nil))))
  (pss_cons (ps_set (i := 2) sc_alop.nd rfl (.inl rfl) (pe_dget hu (pv 1) (pe_ifExp (pt_cmpR op_eq (pe_ix ix_tup (pv 0) pe_int (fun _ _ => rfl)) pe_str (nomark _)) pe_str pe_str) (fun _ _ => rfl)))
  (pss_one (ps_dput hu (pv 2) (pe_ix ix_tup (pv 0) pe_int (fun _ _ => rfl)) (pcall T.D_lworth (ok_lworth T 52) (hr.mono (by omega)) (by rfl) (pa_cons (pe_ix ix_tup (pv 0) pe_int (fun _ _ => rfl)) (pa_cons (pe_dget hu (pv 1) pe_str (fun _ _ => rfl)) pa_nil))) rfl))))))))), ?_⟩
    obtain ⟨a', xs, ea, hx, hall⟩ := dp_tup hd
    cases ea
    have dl : (dI s.words).length < sizeLine := by unfold dI; rw [List.length_map]; exact small7 (by have := lk.wl; omega)
    have cl : (dI s.cells).length < sizeLine := by
      have e : s.cells.length = cn.length := by rw [← lk.ck, List.length_map]
      unfold dI
      rw [List.length_map, e]
      exact small1000 hcn
    have bu : ∀ {H1 : Hp} {x : Addr} {o : HO}, Same H H1 → x ∈ [d, S, B, T'] → But [d, S, B, T'] H (upd H1 x o) := fun s1 hm => But.set (fun x o h _ => s1 x o h) hm
    cases hdo with
    | put h1 h2 =>
      cases hall with
      | cons d0 t => cases t with
        | cons d1 t => cases t with
          | cons d2 t =>
            cases t
            cases d0
            cases d1
            refine ⟨_, rfl, a, _, _, _, rfl, rfl, hx, atI_nat (j := 0) rfl, rfl, _, rfl, iteF (⟨_, rfl, a, _, _, _, rfl, rfl, hx, atI_nat (j := 0) rfl, rfl, _, rfl, iteF (⟨_, rfl, a, _, _, _, rfl, rfl, hx, atI_nat (j := 0) rfl, rfl, _, rfl, iteF (⟨_, rfl, if_' ⟨_, rfl, a, _, _, _, rfl, rfl, hx, atI_nat (j := 0) rfl, rfl, _, rfl, iteT ⟨d, _, rfl, DGet.k (k := Sum.inr "words") g.hd, ⟨_, rfl, a, _, _, _, rfl, rfl, hx, atI_nat (j := 2) rfl, _, rfl, d, _, rfl, DGet.k (k := Sum.inr "words") g.hd, _, _, B, s.words, rfl, cost_ok h2 d2, g.hB, fun H1 s1 => ⟨_, rfl, _, rfl, a, _, _, _, rfl, rfl, s1.sqt hx, atI_nat (j := 1) rfl, B, _, rfl, DPut.k (k := Sum.inr _) (s1 _ _ g.hB) dl, nx_ ?_⟩⟩⟩⟩⟩)⟩)⟩)⟩
            rw [putI_dI]
            exact q _ (g.same s1).setB (bu s1 (by simp))
    | read h1 h2 =>
      rename_i n0 nm z2
      obtain ⟨i, hi⟩ := look_mem (l := s.cells) (z := z2) (by rw [lk.ck]; exact h2)
      have dg : DGet H S (.str z2) (some (.int i)) := by
        have := DGet.k (k := Sum.inr z2) g.hS
        rw [look_val, hi] at this
        exact this
      cases hall with
      | cons d0 t => cases t with
        | cons d1 t => cases t with
          | cons d2 t =>
            cases t
            cases d0
            cases d1
            cases d2
            refine ⟨_, rfl, a, _, _, _, rfl, rfl, hx, atI_nat (j := 0) rfl, rfl, _, rfl, iteF (⟨_, rfl, a, _, _, _, rfl, rfl, hx, atI_nat (j := 0) rfl, rfl, _, rfl, iteT (⟨_, rfl, d, _, rfl, DGet.k (k := Sum.inr "cells") g.hd, _, rfl, a, _, _, _, rfl, rfl, hx, atI_nat (j := 2) rfl, S, _, rfl, dg, _, rfl, d, _, rfl, DGet.k (k := Sum.inr "words") g.hd, _, rfl, a, _, _, _, rfl, rfl, hx, atI_nat (j := 1) rfl, B, _, rfl, DPut.k (k := Sum.inr _) g.hB dl, nx_ ?_⟩)⟩)⟩
            rw [putI_dI]
            have e : plainR "read" [.str nm, .str z2] s = { s with words := putI s.words nm i } := by
              show ({ s with words := putI s.words nm ((look s.cells z2).getD 0) } : Ls) = _
              rw [hi]
              rfl
            rw [e] at q
            exact q _ g.setB (bu (Same.refl H) (by simp))
    | write h1 h2 =>
      cases hall with
      | cons d0 t => cases t with
        | cons d1 t => cases t with
          | cons d2 t =>
            cases t
            cases d0
            cases d1
            refine ⟨_, rfl, a, _, _, _, rfl, rfl, hx, atI_nat (j := 0) rfl, rfl, _, rfl, iteF (⟨_, rfl, a, _, _, _, rfl, rfl, hx, atI_nat (j := 0) rfl, rfl, _, rfl, iteF (⟨_, rfl, a, _, _, _, rfl, rfl, hx, atI_nat (j := 0) rfl, rfl, _, rfl, iteF (⟨_, rfl, if_' ⟨_, rfl, a, _, _, _, rfl, rfl, hx, atI_nat (j := 0) rfl, rfl, _, rfl, iteF ⟨d, _, rfl, DGet.k (k := Sum.inr "cells") g.hd, ⟨_, rfl, a, _, _, _, rfl, rfl, hx, atI_nat (j := 2) rfl, _, rfl, d, _, rfl, DGet.k (k := Sum.inr "words") g.hd, _, _, B, s.words, rfl, cost_ok h2 d2, g.hB, fun H1 s1 => ⟨_, rfl, _, rfl, a, _, _, _, rfl, rfl, s1.sqt hx, atI_nat (j := 1) rfl, S, _, rfl, DPut.k (k := Sum.inr _) (s1 _ _ g.hS) cl, nx_ ?_⟩⟩⟩⟩⟩)⟩)⟩)⟩
            rw [putI_dI]
            exact q _ (g.same s1).setS (bu s1 (by simp))
    | tell h1 =>
      rename_i n0 c0
      cases hall with
      | cons d0 t => cases t with
        | cons d1 t =>
          cases t
          cases d0
          refine ⟨_, rfl, a, _, _, _, rfl, rfl, hx, atI_nat (j := 0) rfl, rfl, _, rfl, iteF (⟨_, rfl, a, _, _, _, rfl, rfl, hx, atI_nat (j := 0) rfl, rfl, _, rfl, iteF (⟨_, rfl, a, _, _, _, rfl, rfl, hx, atI_nat (j := 0) rfl, rfl, _, rfl, iteT (⟨_, rfl, d, _, rfl, DGet.k (k := Sum.inr "told") g.hd, .inl ⟨rfl, _, sl g.hT⟩, _, rfl, a, _, _, _, rfl, rfl, hx, atI_nat (j := 1) rfl, _, rfl, d, _, rfl, DGet.k (k := Sum.inr "words") g.hd, _, _, B, s.words, rfl, cost_ok h1 d1, g.hB, fun H1 s1 => ⟨T', _, _, rfl, rfl, s1 _ _ g.hT, by rw [List.length_map]; exact small7 (by have := lk.tl; omega), nx_ ?_⟩⟩)⟩)⟩)⟩
          have e : s.told.map V.int ++ [V.int (wD s.words c0)] = (s.told ++ [wD s.words c0]).map V.int := by rw [List.map_append]; rfl
          have := (g.same s1).setT (ws := s.told ++ [wD s.words c0])
          rw [← e] at this
          exact q _ this (bu s1 (by simp))
    | rest h1 h2 =>
      cases hall with
      | cons d0 t => cases t with
        | cons d1 t =>
          cases t
          cases d0
          cases d1
          refine ⟨_, rfl, a, _, _, _, rfl, rfl, hx, atI_nat (j := 0) rfl, rfl, _, rfl, iteT (?_)⟩
          refine ⟨_, rfl, d, _, rfl, DGet.k (k := Sum.inr "now") g.hd, _, rfl, a, _, _, _, rfl, rfl, hx, atI_nat (j := 1) rfl, _, _, rfl, rfl, _, DPut.k (k := Sum.inr "now") g.hd (by show 5 < sizeLine; decide), nx_ ?_⟩
          exact q _ g.setD (bu (Same.refl H) (by simp))
    | _ => exact absurd hz (by decide +kernel)
end
end TP
namespace TP
open PySem PySem.Spec PyProof.Rows L2 HX HB HG HU HH HD HS HV HQ HK HN HJ TL HM HP HR HO HC HF
theorem HeAt.plt {H H' : Hp} {d S B T : Addr} {s : Ls} (g : HeAt H d S B T s) (u : But [d, S, B, T] H H') {x : Addr} {xs : List V} (h : HAD.PlT H x xs) : HAD.PlT H' x xs := by
  obtain ⟨o, e, ho⟩ := h
  refine ⟨o, u _ _ e fun hm => ?_, ho⟩
  simp only [List.mem_cons, List.not_mem_nil, or_false] at hm
  rcases hm with h | h | h | h <;> rw [h] at e
  · rw [g.hd] at e; cases e
  · rw [g.hS] at e; cases e
  · rw [g.hB] at e; cases e
  · rw [g.hT] at e; cases e
theorem plt_same {H H' : Hp} {x : Addr} {xs : List V} (h : HAD.PlT H x xs) (s : Same H H') : HAD.PlT H' x xs := let ⟨o, e, ho⟩ := h; ⟨o, s _ _ e, ho⟩
theorem cat_strsP {K : PySem.W.Frag} {H : Hp} {a b : Addr} {p r : List Str} {Q : VK} (ha : HAD.PlT H a (p.map V.str)) (hb : HAD.PlT H b (r.map V.str)) (l : p.length + r.length ≤ sizeLine) (q : ∀ c H', Same H H' → HAD.PlT H' c ((p ++ r).map V.str) → Q (.ref c) H') : HAD.rCatP K (.ref a) (.ref b) H Q := by
  refine ⟨_, _, _, _, rfl, rfl, ha.sqt, hb.sqt, by rw [List.length_map, List.length_map]; exact l, fun e => ?_, fun n e => ?_, fun n1 n2 p o np ho => ?_⟩
  · have e : p = [] := List.map_eq_nil_iff.mp e
    subst e
    exact q _ H (Same.refl H) hb
  · have e : r = [] := List.map_eq_nil_iff.mp e
    subst e
    exact q _ H (Same.refl H) (by rw [List.append_nil]; exact ha)
  · exact q p _ (same_upd np) ⟨o, by rw [upd_same, List.map_append], ho⟩
theorem cnt_all (f : List Str) (nm : Str) : decide (V.int (((f.map PyData.str).countP (fun z => PyData.eqv z (.str nm)) : Nat) : Int) = V.int (((f.map V.str).length : Nat) : Int)) = decide (∀ x ∈ f, x = nm) := by
  have e : (f.map PyData.str).countP (fun z => PyData.eqv z (.str nm)) = f.countP fun z => z == nm := by
    rw [List.countP_map]
    rfl
  rw [e, List.length_map]
  refine decide_eq_decide.mpr ⟨fun h x hx => ?_, fun h => ?_⟩
  · have h := V.int.inj h
    have := List.countP_eq_length.mp (by omega : (f.countP fun z => z == nm) = f.length) x hx
    exact beq_iff_eq.mp this
  · have := List.countP_eq_length.mpr fun x hx => beq_iff_eq.mpr (h x hx)
    rw [this]
theorem t_eq0 {K : PySem.W.Frag} {H : Hp} {σ : L2.St} {i : Nat} {t : Addr} {zs : List Str} {Q : Bool → Hp → Prop} (hi : σ[i]? = some (some (.ref t))) (hn : ∀ z ∈ zs, isNameL z = true) (h : SqT K H t (zs.map V.str)) (q : ∀ H', Same H H' → Q (decide (zs = [])) H') : tTest (tOp (rEqD K) (tVar i) (tTup tNil)) σ H Q := by
  refine ⟨_, hi, Nat.zero_le _, fun e ne => ?_⟩
  obtain ⟨s1, d1⟩ := new_tup (K := K) ne .nil
  refine ⟨_, _, dp_strsT (s1.sqt h), d1, shaped_strsT hn, rfl, _, rfl, ?_⟩
  rw [eqv_nilT]
  exact q _ s1
theorem call_ {sp : Sp} {dv : List V} {E : XK} {ta : TA} {σ : L2.St} {H : Hp} {Q : VK} (h : ta σ H fun vs H1 => sp (vs ++ dv) H1 Q E) : tCall sp dv E ta σ H Q := h
section
variable {P : Program} {w : World} {K : PySem.W.Frag} {mg : Str → Option Value} {base : Heap}
def spAlo (K : PySem.W.Frag) (n : Nat) : Sp := fun vs H Q _ => ∃ (d S B T : Addr) (v : V) (s : Ls) (cn W ln hn : List Str) (rows : List PyData), vs = [v, .ref d] ∧ HeAt H d S B T s ∧ LsOk cn s ∧ Dp K H v (.tuple rows) ∧ tupAll rows = true ∧ (∀ x ∈ rows, Do Clx W cn ln hn n x) ∧ NoW W ∧ s.steps + costB n rows < 10 ^ 7 ∧ cn.length ≤ 1000 ∧
  ∀ (t : Addr) (H' : Hp) (f' : List Str), HeAt H' d S B T (runB (runR n) rows s).2 → HAD.PlT H' t (f'.map V.str) → f'.Perm (runB (runR n) rows s).1 → But [d, S, B, T] H H' → Q (.ref t) H'
theorem ok_alo1 (T : Tp K w mg) (n k : Nat) (hk : 54 ≤ k) (ih : FnOk P w K mg base CX0 k T.f_alo T.fd_alo ["_law_rows", "_law_held"] (spR (spAlo K) n)) : FnOk P w K mg base CX0 (k + 1) T.f_alo T.fd_alo ["_law_rows", "_law_held"] (spAlo K n) := by
  refine T.D_alo.F.ok sc_alo (fun vs H Q E h => ?_) (fun cdv A outer st H vs Q E hr h => ?_)
  · obtain ⟨d, S, B, T', v, s, cn, W, ln, hn, rows, rfl, _⟩ := h
    rfl
  · obtain ⟨d, S, B, T', v, s, cn, W, ln, hn, rows, rfl, g, lk, hd, htu, hdo, hW, hst, hcn, q⟩ := h
    have hu := hu_of hr
    refine ⟨_, (pss_cons (ps_for PassesOwn.never rfl (pi_tup (pv 0)) (pg_name (i := 2) sc_alo.nd rfl (.inl rfl))
  (pss_cons (ps_par (i := 3) (j := 4) rfl sc_alo.nd rfl rfl (by decide) rfl rfl (pa_cons (pe_ix ix_tup (pv 2) pe_int (fun _ _ => rfl)) (pa_cons (HAD.pe_tupP pa_nil) pa_nil)) (by rfl))
  (pss_cons (ps_daug hu (pv 1) pe_str pe_int in_add (by intros; rfl))
  (Evl.pss_cut (ps_if (pt_cmpR op_in_seq (pv 3) (pe_tup (pa_cons pe_str (pa_cons pe_str (pa_cons pe_str (pa_cons pe_str (pa_cons pe_str pa_nil)))))) (by rfl))
  (pss_one (ps_expr (pcall T.D_alop (ok_alop T) (hr.mono (by omega)) (by rfl) (pa_cons (pv 2) (pa_cons (pv 1) pa_nil)))))
  (pss_one (ps_if (pt_cmpR op_eq (pv 3) pe_str (nomark _))
  (pss_one (ps_set (i := 4) sc_alo.nd rfl (.inl rfl) (HAD.pe_tupP (pa_cons (pe_ix ix_tup (pv 2) pe_int (fun _ _ => rfl)) pa_nil))))
  (pss_one (ps_if (pt_cmpR op_eq (pv 3) pe_str (nomark _))
  (pss_cons (ps_set (i := 5) sc_alo.nd rfl (.inl rfl) (pcall T.D_alo ih (hr.mono (by omega)) (by rfl) (pa_cons (pe_ix ix_tup (pv 2) pe_int (fun _ _ => rfl)) (pa_cons (pv 1) pa_nil))))
  (pss_one (ps_set (i := 4) sc_alo.nd rfl (.inl rfl) (pe_op HAD.op_catP (pv 5) (pcall T.D_alo ih (hr.mono (by omega)) (by rfl) (pa_cons (pe_ix ix_tup (pv 2) pe_int (fun _ _ => rfl)) (pa_cons (pv 1) pa_nil)))))))
  (pss_one (ps_if (pt_cmpR op_eq (pv 3) pe_str (nomark _))
  (pss_cons (ps_set (i := 4) sc_alo.nd rfl (.inl rfl) (pcall T.D_alo ih (hr.mono (by omega)) (by rfl) (pa_cons (pe_ix ix_tup (pv 2) pe_int (fun _ _ => rfl)) (pa_cons (pv 1) pa_nil))))
  (pss_one (ps_if (PW.pt (pw_and (pt_cmpR (op_neD hr.units) (pv 4) (pe_tup pa_nil) (nomark _)) (pw_and1 (pt_cmpR op_eq (HAD.pe_bmt PySem.F.plainAttrs_tuple PySem.F.slot_tuple_count PySem.F.type_tuple_count (HAC.mt_countT (HA.u65 hr)) (pv 4) (pa_cons (pe_ix ix_tup (pv 2) pe_int (fun _ _ => rfl)) pa_nil)) (pe_callB call_len_seq (by rfl) T.len PySem.boot_len (pa_cons (pv 4) pa_nil)) (nomark _)))))
  (pss_one (ps_set (i := 4) sc_alo.nd rfl (.inl rfl) (pcall T.D_alo ih (hr.mono (by omega)) (by rfl) (pa_cons (pe_ix ix_tup (pv 2) pe_int (fun _ _ => rfl)) (pa_cons (pv 1) pa_nil)))))
  pss_nil)))
  (pss_one (ps_if (pt_cmpR op_eq (pv 3) pe_str (nomark _))
  (pss_cons (ps_set (i := 6) sc_alo.nd rfl (.inl rfl) pe_int)
  (pss_one (ps_while PassesOwn.never (PW.pt (pw_and (pt_cmpR op_lt (pv 6) (pe_ix ix_tup (pv 2) pe_int (fun _ _ => rfl)) (nomark _)) (pw_and1 (pt_cmpR (op_eqD hr.units) (pv 4) (pe_tup pa_nil) (nomark _)))))
  (pss_cons (ps_set (i := 4) sc_alo.nd rfl (.inl rfl) (pcall T.D_alo ih (hr.mono (by omega)) (by rfl) (pa_cons (pe_ix ix_tup (pv 2) pe_int (fun _ _ => rfl)) (pa_cons (pv 1) pa_nil))))
  (pss_one (ps_aug (i := 6) sc_alo.nd rfl (.inl rfl) pe_int ip_add))))))
  (pss_one (ps_if (pt_cmpR op_eq (pv 3) pe_str (nomark _))
  (pss_one (ps_set (i := 4) sc_alo.nd rfl (.inl rfl) (pcall T.D_alo ih (hr.mono (by omega)) (by rfl) (pa_cons (pe_ifExp (pt_cmpR op_eq (pcall T.D_lworth (ok_lworth T 52) (hr.mono (by omega)) (by rfl) (pa_cons (pe_ix ix_tup (pv 2) pe_int (fun _ _ => rfl)) (pa_cons (pe_dget hu (pv 1) pe_str (fun _ _ => rfl)) pa_nil))) pe_int (nomark _)) (pe_ix ix_tup (pv 2) pe_int (fun _ _ => rfl)) (pe_ix ix_tup (pv 2) pe_int (fun _ _ => rfl))) (pa_cons (pv 1) pa_nil)))))
  (pss_one (ps_set (i := 4) sc_alo.nd rfl (.inl rfl) (pcall T.D_alo ih (hr.mono (by omega)) (by rfl) (pa_cons (pe_ix ix_tup (pv 2) (pe_un un_neg pe_int) (fun _ _ => rfl)) (pa_cons (pv 1) pa_nil))))))))))))))))
  (pss_one (ps_if (pt_cmpR (op_neD hr.units) (pv 4) (pe_tup pa_nil) (nomark _))
  (pss_one (ps_ret (pv 4)))
  pss_nil))))))
  (pss_one (ps_ret (HAD.pe_tupP pa_nil)))), ?_⟩
    obtain ⟨a, xs, rfl, hx, hall⟩ := dp_tup hd
    have hlen : xs.length = rows.length := dpAll_len hall
    have ekeep : ∀ {H1 : Hp}, But [d, S, B, T'] H H1 → SqT K H1 a xs := fun b => g.sqt b hx
    refine ⟨_, rfl, a, rfl, ⟨_, hx⟩, for_it (walk_tup (xs := xs)) (fun i σ H1 => ∃ (y2 y3 y4 y5 y6 : Option V) (si : Ls), σ = [some (.ref a), some (.ref d), y2, y3, y4, y5, y6] ∧ HeAt H1 d S B T' si ∧ LsOk cn si ∧ But [d, S, B, T'] H H1 ∧ runB (runR n) rows s = runB (runR n) (rows.drop i) si ∧ si.steps + costB n (rows.drop i) < 10 ^ 7) ?_ (fun i σ H1 _ gg => by obtain ⟨_, _, _, _, _, _, _, _, _, b, _⟩ := gg; exact ekeep b) ?_ ?_⟩
    · exact ⟨none, none, none, none, none, s, rfl, g, lk, But.refl H, rfl, hst⟩
    · rintro i x σ H0 H1 hi ⟨y2, y3, y4, y5, y6, si, rfl, g1, lk1, b1, er, hs1⟩ ⟨rfl, gx⟩
      have hir : i < rows.length := by omega
      have edrop : rows.drop i = rows[i] :: rows.drop (i + 1) := List.drop_eq_getElem_cons hir
      rw [edrop] at er hs1
      obtain ⟨v, ev, hv⟩ := dp_at hall (i := i) (d := rows[i]) (List.getElem?_eq_getElem hir)
      rw [ev] at gx
      cases gx
      have hmem := List.getElem_mem hir
      have hdi := hdo _ hmem
      have htup : tupD rows[i] = true := tupAll_in htu hmem
      have hc : costB n (rows[i] :: rows.drop (i + 1)) = costR n rows[i] + costB n (rows.drop (i + 1)) := by unfold costB; rw [List.map_cons, List.sum_cons]
      rw [hc] at hs1
      have hstep := run_steps hW n _ hdi si
      have hv1 := g.dp b1 htup hv
      obtain ⟨m, z, ds, em, erow⟩ := hdi.shape
      rw [erow] at hv1
      obtain ⟨ra, rxs, rfl, hrx, hrall⟩ := dp_tup hv1
      have hx0 : ∃ xr, rxs = .str z :: xr ∧ DpAll K H1 xr ds := by
        cases hrall with
        | cons d0 t => cases d0; exact ⟨_, rfl, t⟩
      obtain ⟨xr, rfl, hxr⟩ := hx0
      refine ⟨_, rfl, ra, _, _, _, rfl, rfl, hrx, atI_nat (j := 0) rfl, Nat.zero_le _, fun e0 oe0 ne0 hoe0 => ⟨_, _, rfl, ?_⟩⟩
      have s2 := same_upd (o := .frz oe0 (.tup [])) ne0
      have he0 : (upd H1 e0 (.frz oe0 (.tup []))) e0 = some (.frz oe0 (.tup [])) := upd_same
      refine gen3 fun H2 e2 => ?_
      rw [← e2] at s2 he0
      clear e2
      have g2 := g1.same s2
      refine ⟨_, rfl, d, _, rfl, DGet.k (k := Sum.inr "steps") g2.hd, _, _, rfl, rfl, _, DPut.k (k := Sum.inr "steps") g2.hd (by show 5 < sizeLine; decide), nx_ ?_⟩
      have eput : putK (heL S B T' si.now (1 + 2 * (si.steps : Int))) (Sum.inr "steps") (.int (1 + 2 * (si.steps : Int) + 2)) = heL S B T' si.now (1 + 2 * ((si.steps + 1 : Nat) : Int)) := by
        rw [show (1 + 2 * (si.steps : Int) + 2) = 1 + 2 * ((si.steps + 1 : Nat) : Int) by omega]
        rfl
      rw [eput]
      have g3 : HeAt (upd H2 d (.dK (heL S B T' si.now (1 + 2 * ((si.steps + 1 : Nat) : Int))))) d S B T' (upS si) := g2.setD
      have b23 : But [d, S, B, T'] H2 (upd H2 d (.dK (heL S B T' si.now (1 + 2 * ((si.steps + 1 : Nat) : Int))))) := (But.refl H2).set (by simp)
      generalize upd H2 d (.dK (heL S B T' si.now (1 + 2 * ((si.steps + 1 : Nat) : Int)))) = H3 at g3 b23 ⊢
      have b13 : But [d, S, B, T'] H1 H3 := But.trans (fun x o h _ => s2 x o h) b23
      have b03 := b1.trans b13
      have hrx3 := g1.sqt b13 hrx
      have htd : tupAll (PyData.str z :: ds) = true := by rw [erow] at htup; exact htup
      have htds : tupAll ds = true := by
        have h : (true && tupAll ds) = true := htd
        rwa [Bool.true_and] at h
      have hxr3 : DpAll K H3 xr ds := dpAll_keep (fun _ _ h => g1.sqt b13 h) htds hxr
      have he03 : HAD.PlT H3 e0 [] := g2.plt b23 ⟨oe0, he0, hoe0⟩
      have lku : LsOk cn (upS si) := ⟨Nat.le_succ_of_le lk1.tl, Nat.le_succ_of_le lk1.wl, lk1.ck⟩
      have esu : (upS si).steps = si.steps + 1 := rfl
      subst em
      have ec : costR (m + 1) rows[i] = 1 + 3 * ((bodiesD rows[i]).map fun b => ((rowsD b).map (costR m)).sum).sum := rfl
      refine ⟨fun σ H5 => ∃ (y5 y6 : Option V) (tf : Addr) (f' : List Str), σ = [some (.ref a), some (.ref d), some (.ref ra), some (.str z), some (.ref tf), y5, y6] ∧ HeAt H5 d S B T' (runR (m + 1) rows[i] si).2 ∧ HAD.PlT H5 tf (f'.map V.str) ∧ f'.Perm (runR (m + 1) rows[i] si).1 ∧ But [d, S, B, T'] H H5, ?_, ?_⟩
      · refine ⟨_, rfl, by show 5 ≤ sizeLine; decide, fun e ne => ?_⟩
        have t1 := same_upd (o := .tup [.str "put", .str "tell", .str "write", .str "read", .str "rest"]) ne
        have he : (upd H3 e (.tup [.str "put", .str "tell", .str "write", .str "read", .str "rest"])) e = some (.tup [.str "put", .str "tell", .str "write", .str "read", .str "rest"]) := upd_same
        generalize upd H3 e (.tup [.str "put", .str "tell", .str "write", .str "read", .str "rest"]) = H4 at t1 he ⊢
        refine ⟨e, (["put", "tell", "write", "read", "rest"] : List Str).map V.str, rfl, .inr (stt he), rfl, flat_strs _, _, rfl, ?_⟩
        rw [if_neg Bool.false_ne_true, inV_strs]
        have g4 := g3.same t1
        have b04 : But [d, S, B, T'] H H4 := b03.trans fun x o h _ => t1 x o h
        have hpl : z ∈ (["put", "tell", "write", "read", "rest"] : List Str) ↔ z ∈ plainW := by
          unfold plainW
          simp only [List.mem_cons, List.not_mem_nil, or_false]
          constructor <;> (intro h; rcases h with h | h | h | h | h <;> simp [h])
        rw [erow] at hdi ⊢
        refine ite2 (fun hz => ?_) (fun hz0 => ?_)
        · have hz : z ∈ plainW := hpl.mp (of_decide_eq_true hz)
          have er1 : runR (m + 1) (.tuple (.str z :: ds)) si = ([], plainR z ds (upS si)) := if_pos hz
          rw [er1]
          have hd4 : Dp K H4 (.ref ra) (.tuple (.str z :: ds)) := .tup (t1.sqt hrx3) (.cons (.str _) (t1.dpAll hxr3))
          refine ⟨_, rfl, _, rfl, d, S, B, T', ra, upS si, cn, W, ln, hn, m + 1, z, ds, rfl, g4, lku, hd4, hdi, hz, by omega, hcn, fun H5 g5 b5 => nx_ ?_⟩
          exact ⟨_, _, e0, [], rfl, g5, (g3.same t1).plt b5 (plt_same he03 t1), List.Perm.refl _, b04.trans b5⟩
        · have hz : z ∉ plainW := fun h => hz0 (decide_eq_true (hpl.mpr h))
          clear hz0
          have er1 : runR (m + 1) (.tuple (.str z :: ds)) si = deepR (runB (runR m)) z ds (upS si) := if_neg hz
          rw [er1]
          have hrx4 := t1.sqt hrx3
          have call : ∀ {σ : L2.St} {H5 : Hp} {sj : Ls} {v : V} {rs : List PyData} {te : TE} {Q2 : VK}, σ[1]? = some (some (.ref d)) → HeAt H5 d S B T' sj → LsOk cn sj → (∀ Q3 : VK, Q3 v H5 → te σ H5 Q3) → Dp K H5 v (.tuple rs) → tupAll rs = true → (∀ x ∈ rs, Do Clx W cn ln hn m x) → sj.steps + costB m rs < 10 ^ 7 → (∀ (t : Addr) (H6 : Hp) (f' : List Str), HeAt H6 d S B T' (runB (runR m) rs sj).2 → HAD.PlT H6 t (f'.map V.str) → f'.Perm (runB (runR m) rs sj).1 → But [d, S, B, T'] H5 H6 → Q2 (.ref t) H6) → tCall (spR (spAlo K) (m + 1)) [] E0 (tCons te (tCons (tVar 1) tNil)) σ H5 Q2 := fun h1 g5 lk5 ht hv5 htu5 hd5 hs5 k =>
            ht _ ⟨_, h1, d, S, B, T', _, _, cn, W, ln, hn, _, rfl, g5, lk5, hv5, htu5, hd5, hW, hs5, hcn, k⟩
          rw [erow] at hs1
          clear er erow ec hc hstep hmem htup edrop er1
          cases hdi with
          | put h1 h2 => exact absurd (by decide +kernel) hz
          | read h1 h2 => exact absurd (by decide +kernel) hz
          | write h1 h2 => exact absurd (by decide +kernel) hz
          | tell h1 => exact absurd (by decide +kernel) hz
          | rest h1 h2 => exact absurd (by decide +kernel) hz
          | send h1 => exact absurd h1 hW.1
          | take h1 => exact absurd h1 hW.2.1
          | off h1 => exact absurd h1 hW.2.2
          | fail h1 =>
            cases hxr3 with
            | cons d1 t =>
              cases t
              cases d1
              refine ⟨_, rfl, rfl, _, rfl, iteT (asg_ ⟨_, rfl, ra, _, _, _, rfl, rfl, hrx4, atI_nat (j := 1) rfl, by show 1 ≤ sizeLine; decide, fun p op np hop => ?_⟩)⟩
              exact ⟨_, _, p, [_], rfl, g4.same (same_upd np), ⟨op, upd_same, hop⟩, List.Perm.refl _, b04.trans fun x o h _ => same_upd np x o h⟩
          | hold hm hb =>
            rename_i nm rs
            have ec' : costR (m + 1) (.tuple [.str "hold", .str nm, .tuple rs]) = 1 + 3 * (costB m rs + 0) := rfl
            cases hxr3 with
            | cons d1 t => cases t with
              | cons d2 t =>
                cases t
                exact ⟨_, rfl, rfl, _, rfl, iteF (⟨_, rfl, rfl, _, rfl, iteF (⟨_, rfl, rfl, _, rfl, iteF (⟨_, rfl, rfl, _, rfl, iteF (⟨_, rfl, rfl, _, rfl, iteF (asg_ (call rfl g4 lku (fun Q3 k => ⟨_, rfl, _, rfl, ra, _, _, _, rfl, rfl, hrx4, rfl, k⟩) (t1.dp d2) (tupAll_in htds (x := .tuple rs) (by simp)) hb (by omega) fun t2 H5 f' g5 ht5 hp5 b5 => ⟨_, _, t2, f', rfl, g5, ht5, hp5, b04.trans b5⟩))⟩)⟩)⟩)⟩)⟩
          | nest hm hb =>
            rename_i nm rs
            have ec' : costR (m + 1) (.tuple [.str "nest", .str nm, .tuple rs]) = 1 + 3 * (costB m rs + 0) := rfl
            cases hxr3 with
            | cons d1 t => cases t with
              | cons d2 t =>
                cases t
                exact ⟨_, rfl, rfl, _, rfl, iteF (⟨_, rfl, rfl, _, rfl, iteF (⟨_, rfl, rfl, _, rfl, iteF (⟨_, rfl, rfl, _, rfl, iteF (⟨_, rfl, rfl, _, rfl, iteF (asg_ (call rfl g4 lku (fun Q3 k => ⟨_, rfl, _, rfl, ra, _, _, _, rfl, rfl, hrx4, rfl, k⟩) (t1.dp d2) (tupAll_in htds (x := .tuple rs) (by simp)) hb (by omega) fun t2 H5 f' g5 ht5 hp5 b5 => ⟨_, _, t2, f', rfl, g5, ht5, hp5, b04.trans b5⟩))⟩)⟩)⟩)⟩)⟩
          | within hm1 hm2 hm3 hm4 hb =>
            rename_i j nm rs
            have ec' : costR (m + 1) (.tuple [.str "within", .int j, .str nm, .tuple rs]) = 1 + 3 * (costB m rs + 0) := rfl
            cases hxr3 with
            | cons d1 t => cases t with
              | cons d2 t => cases t with
                | cons d3 t =>
                  cases t
                  exact ⟨_, rfl, rfl, _, rfl, iteF (⟨_, rfl, rfl, _, rfl, iteF (⟨_, rfl, rfl, _, rfl, iteF (⟨_, rfl, rfl, _, rfl, iteF (⟨_, rfl, rfl, _, rfl, iteF (asg_ (call rfl g4 lku (fun Q3 k => ⟨_, rfl, _, rfl, ra, _, _, _, rfl, rfl, hrx4, rfl, k⟩) (t1.dp d3) (tupAll_in htds (x := .tuple rs) (by simp)) hb (by omega) fun t2 H5 f' g5 ht5 hp5 b5 => ⟨_, _, t2, f', rfl, g5, ht5, hp5, b04.trans b5⟩))⟩)⟩)⟩)⟩)⟩
          | start hm1 hm2 hb =>
            rename_i nm rs
            have ec' : costR (m + 1) (.tuple [.str "start", .str nm, .tuple rs]) = 1 + 3 * (costB m rs + 0) := rfl
            cases hxr3 with
            | cons d1 t => cases t with
              | cons d2 t =>
                cases t
                exact ⟨_, rfl, rfl, _, rfl, iteF (⟨_, rfl, rfl, _, rfl, iteF (⟨_, rfl, rfl, _, rfl, iteF (⟨_, rfl, rfl, _, rfl, iteF (⟨_, rfl, rfl, _, rfl, iteF (asg_ (call rfl g4 lku (fun Q3 k => ⟨_, rfl, _, rfl, ra, _, _, _, rfl, rfl, hrx4, rfl, k⟩) (t1.dp d2) (tupAll_in htds (x := .tuple rs) (by simp)) hb (by omega) fun t2 H5 f' g5 ht5 hp5 b5 => ⟨_, _, t2, f', rfl, g5, ht5, hp5, b04.trans b5⟩))⟩)⟩)⟩)⟩)⟩
          | shield hb =>
            rename_i rs
            have ec' : costR (m + 1) (.tuple [.str "shield", .tuple rs]) = 1 + 3 * (costB m rs + 0) := rfl
            cases hxr3 with
            | cons d1 t =>
              cases t
              exact ⟨_, rfl, rfl, _, rfl, iteF (⟨_, rfl, rfl, _, rfl, iteF (⟨_, rfl, rfl, _, rfl, iteF (⟨_, rfl, rfl, _, rfl, iteF (⟨_, rfl, rfl, _, rfl, iteF (asg_ (call rfl g4 lku (fun Q3 k => ⟨_, rfl, _, rfl, ra, _, _, _, rfl, rfl, hrx4, rfl, k⟩) (t1.dp d1) (tupAll_in htds (x := .tuple rs) (by simp)) hb (by omega) fun t2 H5 f' g5 ht5 hp5 b5 => ⟨_, _, t2, f', rfl, g5, ht5, hp5, b04.trans b5⟩))⟩)⟩)⟩)⟩)⟩
          | try_ h1 h2 =>
            rename_i rs rs2
            have ec' : costR (m + 1) (.tuple [.str "try", .tuple rs, .tuple rs2]) = 1 + 3 * (costB m rs + (costB m rs2 + 0)) := rfl
            cases hxr3 with
            | cons d1 t => cases t with
              | cons d2 t =>
                cases t
                refine ⟨_, rfl, rfl, _, rfl, iteF ⟨_, rfl, rfl, _, rfl, iteT (seq_ (asg_ (call rfl g4 lku (fun Q3 k => ⟨_, rfl, ra, _, _, _, rfl, rfl, hrx4, atI_nat (j := 1) rfl, k⟩) (t1.dp d1) (tupAll_in htds (x := .tuple rs) (by simp)) h1 (by omega) fun t2 H5 f1 g5 ht5 hp5 b5 => ?_)))⟩⟩
                have k1 := (runB_ok hW m rs h1 (upS si) lku).ok
                have c1 := runB_stepsD hW m rs h1 (upS si)
                have t2' : tupAll rs2 = true := tupAll_in htds (x := .tuple rs2) (by simp)
                refine ⟨_, rfl, call rfl g5 k1 (fun Q3 k => ⟨_, rfl, ra, _, _, _, rfl, rfl, g4.sqt b5 hrx4, atI_nat (j := 2) rfl, k⟩) (g4.dp b5 (show tupD (.tuple rs2) = true from t2') (t1.dp d2)) t2' h2 (by omega) fun t3 H6 f2 g6 ht6 hp6 b6 => ?_⟩
                have l1 := runB_lenD hW m rs h1 (upS si)
                have l2 := runB_lenD hW m rs2 h2 (runB (runR m) rs (upS si)).2
                have c2 := runB_stepsD hW m rs2 h2 (runB (runR m) rs (upS si)).2
                have e1 := hp5.length_eq
                have e2 := hp6.length_eq
                refine cat_strsP (g5.plt b6 ht5) ht6 (Nat.le_of_lt (small7 (by omega))) fun t4 H7 s7 ht7 => ?_
                exact ⟨_, _, t4, f1 ++ f2, rfl, g6.same s7, ht7, (hp5.append hp6).trans (srt_perm _).symm, ((b04.trans b5).trans b6).trans fun x o h _ => s7 x o h⟩
          | catch_ hn' h1 h2 =>
            rename_i nm rs rs2
            have ec' : costR (m + 1) (.tuple [.str "catch", .tuple rs, .str nm, .tuple rs2]) = 1 + 3 * (costB m rs + (costB m rs2 + 0)) := rfl
            have eC : deepR (runB (runR m)) "catch" [.tuple rs, .str nm, .tuple rs2] (upS si) = if (runB (runR m) rs (upS si)).1 ≠ [] ∧ ∀ x ∈ (runB (runR m) rs (upS si)).1, x = nm then runB (runR m) rs2 (runB (runR m) rs (upS si)).2 else runB (runR m) rs (upS si) := rfl
            cases hxr3 with
            | cons d1 t => cases t with
              | cons d2 t => cases t with
                | cons d3 t =>
                  cases t
                  cases d2
                  have t1' : tupAll rs = true := tupAll_in htds (x := .tuple rs) (by simp)
                  have t2' : tupAll rs2 = true := tupAll_in htds (x := .tuple rs2) (by simp)
                  refine ⟨_, rfl, rfl, _, rfl, iteF ⟨_, rfl, rfl, _, rfl, iteF ⟨_, rfl, rfl, _, rfl, iteT (seq_ (asg_ (call rfl g4 lku (fun Q3 k => ⟨_, rfl, ra, _, _, _, rfl, rfl, hrx4, atI_nat (j := 1) rfl, k⟩) (t1.dp d1) t1' h1 (by omega) fun t2 H5 f1 g5 ht5 hp5 b5 => ?_)))⟩⟩⟩
                  have k1 := (runB_ok hW m rs h1 (upS si) lku).ok
                  have c1 := runB_stepsD hW m rs h1 (upS si)
                  have hnm1 : ∀ y ∈ f1, isNameL y = true := fun y hy => runB_nm hW m rs h1 (upS si) y (hp5.mem_iff.mp hy)
                  refine t_ne0 (i := 4) rfl hnm1 ht5.sqt fun H6 s6 => ite2 (fun hne => ?_) (fun he => iteF ?_)
                  · have ht6 := plt_same ht5 s6
                    have g6 := g5.same s6
                    have b46 : But [d, S, B, T'] H4 H6 := b5.trans fun x o h _ => s6 x o h
                    have hrx6 := g4.sqt b46 hrx4
                    have hne1 : f1 ≠ [] := by simpa using hne
                    refine ⟨_, rfl, ⟨t2, _, rfl, ht6⟩, _, rfl, ra, _, _, _, rfl, rfl, hrx6, atI_nat (j := 2) rfl, t2, _, .str nm, f1.map .str, rfl, rfl, dp_strsT ht6.sqt, .str nm, shaped_strsT hnm1, (Good.str (Low.of hn') 0).shaped (by decide), _, rfl, t2, _, rfl, .inr ht6.sqt, rfl, _, rfl, ?_⟩
                    rw [cnt_all]
                    refine ite2 (fun hall => ?_) (fun hall => ?_)
                    · have hall := of_decide_eq_true hall
                      have eC' := eC.trans (if_pos ⟨fun e => hne1 (by rw [e] at hp5; exact hp5.eq_nil), fun x hx => hall x (hp5.mem_iff.mpr hx)⟩)
                      exact asg_ (call rfl g6 k1 (fun Q3 k => ⟨_, rfl, ra, _, _, _, rfl, rfl, hrx6, atI_nat (j := 3) rfl, k⟩) (g4.dp b46 (show tupD (.tuple rs2) = true from t2') (t1.dp d3)) t2' h2 (by omega) fun t3 H7 f3 g7 ht7 hp7 b7 => ⟨_, _, t3, f3, rfl, by rw [eC']; exact g7, ht7, by rw [eC']; exact hp7, (b04.trans b46).trans b7⟩)
                    · have eC' := eC.trans (if_neg fun h => hall (decide_eq_true fun x hx => h.2 x (hp5.mem_iff.mp hx)))
                      exact ⟨_, _, t2, f1, rfl, by rw [eC']; exact g6, ht6, by rw [eC']; exact hp5, b04.trans b46⟩
                  · have he : f1 = [] := by simpa using he
                    have eC' := eC.trans (if_neg fun h => h.1 (by rw [he] at hp5; exact hp5.symm.eq_nil))
                    exact ⟨_, _, t2, f1, rfl, by rw [eC']; exact g5.same s6, plt_same ht5 s6, by rw [eC']; exact hp5, (b04.trans b5).trans fun x o h _ => s6 x o h⟩
          | if_ hc h1 h2 =>
            rename_i c rs rs2
            have ec' : costR (m + 1) (.tuple [.str "if", c, .tuple rs, .tuple rs2]) = 1 + 3 * (costB m rs + (costB m rs2 + 0)) := rfl
            have eI : deepR (runB (runR m)) "if" [c, .tuple rs, .tuple rs2] (upS si) = if wD (upS si).words c ≠ 0 then runB (runR m) rs (upS si) else runB (runR m) rs2 (upS si) := rfl
            cases hxr3 with
            | cons d1 t => cases t with
              | cons d2 t => cases t with
                | cons d3 t =>
                  cases t
                  have t1' : tupAll rs = true := tupAll_in htds (x := .tuple rs) (by simp)
                  have t2' : tupAll rs2 = true := tupAll_in htds (x := .tuple rs2) (by simp)
                  refine ⟨_, rfl, rfl, _, rfl, iteF ⟨_, rfl, rfl, _, rfl, iteF ⟨_, rfl, rfl, _, rfl, iteF ⟨_, rfl, rfl, _, rfl, iteF ⟨_, rfl, rfl, _, rfl, iteT (asg_ (call_ (cons_ (if_' ⟨_, rfl, ra, _, _, _, rfl, rfl, hrx4, atI_nat (j := 1) rfl, _, rfl, d, _, rfl, DGet.k (k := Sum.inr "words") g4.hd, _, _, B, (upS si).words, rfl, cost_ok hc (t1.dp d1), g4.hB, fun H5 s5 => ⟨rfl, _, rfl, ?_⟩⟩))))⟩⟩⟩⟩⟩
                  have ed : decide (V.int (Calc.worth (upS si).words (cOf c)) = V.int 0) = decide (wD (upS si).words c = 0) := decide_eq_decide.mpr ⟨fun h => V.int.inj h, fun h => congrArg V.int h⟩
                  rw [ed]
                  refine ite2 (fun hw => ?_) (fun hw => ?_)
                  · have hw : wD (upS si).words c = 0 := of_decide_eq_true hw
                    have eI' := eI.trans (if_neg (fun h => h hw))
                    exact ⟨_, rfl, ra, _, _, _, rfl, rfl, s5.sqt hrx4, atI_nat (j := 3) rfl, _, rfl, d, S, B, T', _, upS si, cn, W, ln, hn, rs2, rfl, g4.same s5, lku, s5.dp (t1.dp d3), t2', h2, hW, by omega, hcn, fun t2 H6 f' g6 ht6 hp6 b6 => ⟨_, _, t2, f', rfl, by rw [eI']; exact g6, ht6, by rw [eI']; exact hp6, (b04.trans fun x o h _ => s5 x o h).trans b6⟩⟩
                  · have hw : wD (upS si).words c ≠ 0 := fun h => hw (decide_eq_true h)
                    have eI' := eI.trans (if_pos hw)
                    exact ⟨_, rfl, ra, _, _, _, rfl, rfl, s5.sqt hrx4, atI_nat (j := 2) rfl, _, rfl, d, S, B, T', _, upS si, cn, W, ln, hn, rs, rfl, g4.same s5, lku, s5.dp (t1.dp d2), t1', h1, hW, by omega, hcn, fun t2 H6 f' g6 ht6 hp6 b6 => ⟨_, _, t2, f', rfl, by rw [eI']; exact g6, ht6, by rw [eI']; exact hp6, (b04.trans fun x o h _ => s5 x o h).trans b6⟩⟩
          | often i0 i1 h1 =>
            rename_i i rs
            have ec' : costR (m + 1) (.tuple [.str "often", .int i, .tuple rs]) = 1 + 3 * (costB m rs + 0) := rfl
            have eO : deepR (runB (runR m)) "often" [.int i, .tuple rs] (upS si) = loopB (runB (runR m) rs) i.toNat (upS si) := rfl
            cases hxr3 with
            | cons d1 t => cases t with
              | cons d2 t =>
                cases t
                cases d1
                have t1' : tupAll rs = true := tupAll_in htds (x := .tuple rs) (by simp)
                refine ⟨_, rfl, rfl, _, rfl, iteF ⟨_, rfl, rfl, _, rfl, iteF ⟨_, rfl, rfl, _, rfl, iteF ⟨_, rfl, rfl, _, rfl, iteT ?_⟩⟩⟩⟩
                refine ⟨fun μ σ H5 => ∃ (y5 : Option V) (cnt : Nat) (tf : Addr) (f' : List Str) (sj : Ls), σ = [some (.ref a), some (.ref d), some (.ref ra), some (.str "often"), some (.ref tf), y5, some (.int (cnt : Int))] ∧ cnt ≤ i.toNat ∧ μ = i.toNat - cnt ∧ HeAt H5 d S B T' sj ∧ LsOk cn sj ∧ HAD.PlT H5 tf (f'.map V.str) ∧ (∀ y ∈ f', isNameL y = true) ∧ But [d, S, B, T'] H4 H5 ∧ sj.steps ≤ (upS si).steps + cnt * costB m rs ∧ (f' = [] → loopB (runB (runR m) rs) i.toNat (upS si) = loopB (runB (runR m) rs) (i.toNat - cnt) sj) ∧ (f' ≠ [] → f'.Perm (loopB (runB (runR m) rs) i.toNat (upS si)).1 ∧ (loopB (runB (runR m) rs) i.toNat (upS si)).2 = sj), ⟨_, _, 0, e0, [], upS si, rfl, Nat.zero_le _, rfl, g4, lku, plt_same he03 t1, (fun _ h => by cases h), But.refl H4, by omega, fun _ => rfl, fun h => absurd rfl h⟩, ?_⟩
                rintro μ σ H5 ⟨y5, cnt, tf, f', sj, rfl, hcnt, rfl, g5, lk5, hf5, hnm5, b5, hs5, hz5, hn5⟩
                have fin : ∀ {H6 : Hp}, Same H5 H6 → (f' = [] → cnt = i.toNat) → ∃ (z5 z6 : Option V) (tf' : Addr) (f'' : List Str), [some (.ref a), some (.ref d), some (.ref ra), some (.str "often"), some (.ref tf), y5, some (.int (cnt : Int))] = [some (.ref a), some (.ref d), some (.ref ra), some (.str "often"), some (.ref tf'), z5, z6] ∧ HeAt H6 d S B T' (deepR (runB (runR m)) "often" [.int i, .tuple rs] (upS si)).2 ∧ HAD.PlT H6 tf' (f''.map V.str) ∧ f''.Perm (deepR (runB (runR m)) "often" [.int i, .tuple rs] (upS si)).1 ∧ But [d, S, B, T'] H H6 := by
                  intro H6 s6 hc
                  have b06 : But [d, S, B, T'] H H6 := (b04.trans b5).trans fun x o h _ => s6 x o h
                  by_cases hf : f' = []
                  · have e1 := hz5 hf
                    rw [hc hf, Nat.sub_self] at e1
                    have e2 := eO.trans e1
                    refine ⟨y5, _, tf, f', rfl, ?_, plt_same hf5 s6, ?_, b06⟩
                    · rw [e2]; exact g5.same s6
                    · rw [e2, hf]; exact List.Perm.refl _
                  · obtain ⟨p1, p2⟩ := hn5 hf
                    refine ⟨y5, _, tf, f', rfl, ?_, plt_same hf5 s6, ?_, b06⟩
                    · rw [eO, p2]; exact g5.same s6
                    · rw [eO]; exact p1
                refine ⟨_, rfl, _, rfl, ra, _, _, _, rfl, rfl, g4.sqt b5 hrx4, atI_nat (j := 1) rfl, _, _, rfl, rfl, _, rfl, ite2 (fun hlt => ?_) (fun hlt => iteF ?_)⟩
                · have hlt : (cnt : Int) < i := of_decide_eq_true hlt
                  refine t_eq0 (i := 4) rfl hnm5 hf5.sqt fun H6 s6 => ite2 (fun he => ?_) (fun he => ?_)
                  · have he : f' = [] := of_decide_eq_true he
                    have e1 := hz5 he
                    have ek : i.toNat - cnt = (i.toNat - (cnt + 1)) + 1 := by omega
                    rw [ek] at e1
                    have e3 : loopB (runB (runR m) rs) ((i.toNat - (cnt + 1)) + 1) sj = if (runB (runR m) rs sj).1 = [] then loopB (runB (runR m) rs) (i.toNat - (cnt + 1)) (runB (runR m) rs sj).2 else runB (runR m) rs sj := rfl
                    rw [e3] at e1
                    have hj3 : cnt * costB m rs ≤ 2 * costB m rs := Nat.mul_le_mul_right _ (by omega)
                    have b46 : But [d, S, B, T'] H4 H6 := b5.trans fun x o h _ => s6 x o h
                    refine ⟨_, fun σ' H' hN => ⟨i.toNat - (cnt + 1), by omega, hN⟩, ?_⟩
                    refine seq_ (asg_ (call rfl (g5.same s6) lk5 (fun Q3 k => ⟨_, rfl, ra, _, _, _, rfl, rfl, g4.sqt b46 hrx4, atI_nat (j := 2) rfl, k⟩) (g4.dp b46 (show tupD (.tuple rs) = true from t1') (t1.dp d2)) t1' h1 (by omega) fun t2 H7 f2 g7 ht7 hp7 b7 => ?_))
                    refine ⟨_, rfl, _, _, rfl, rfl, ?_⟩
                    have c7 := runB_stepsD hW m rs h1 sj
                    refine ⟨_, cnt + 1, t2, f2, (runB (runR m) rs sj).2, rfl, by omega, rfl, g7, (runB_ok hW m rs h1 sj lk5).ok, ht7, fun y hy => runB_nm hW m rs h1 sj y (hp7.mem_iff.mp hy), b46.trans b7, by rw [Nat.succ_mul]; omega, fun hf2 => ?_, fun hf2 => ?_⟩
                    · rw [if_pos (by rw [hf2] at hp7; exact hp7.symm.eq_nil)] at e1
                      exact e1
                    · rw [if_neg (fun e => hf2 (by rw [e] at hp7; exact hp7.eq_nil))] at e1
                      rw [e1]
                      exact ⟨hp7, rfl⟩
                  · obtain ⟨a1, a2, a3, a4, a5, a6, a7, a8, a9⟩ := fin s6 fun h => absurd (decide_eq_true h) he
                    exact ⟨a1, a2, a3, a4, a5, a6, a7, a8, a9⟩
                · obtain ⟨a1, a2, a3, a4, a5, a6, a7, a8, a9⟩ := fin (Same.refl H5) fun _ => by
                    have : ¬ (cnt : Int) < i := fun h => hlt (decide_eq_true h)
                    omega
                  exact ⟨a1, a2, a3, a4, a5, a6, a7, a8, a9⟩
      · rintro _ H5 ⟨y5, y6, tf, f', rfl, g5, hf, hperm, b5⟩
        have hnm : ∀ y ∈ f', isNameL y = true := fun y hy => run_nm hW (m + 1) _ hdi si y (hperm.mem_iff.mp hy)
        refine t_ne0 (i := 4) rfl hnm hf.sqt fun H6 s6 => ite2 (fun hne => ?_) (fun he => ?_)
        · have hne : ¬ (runR (m + 1) rows[i] si).1 = [] := fun e => by
            rw [e] at hperm
            have := hperm.eq_nil
            rw [this] at hne
            simp at hne
          have e2 : runB (runR (m + 1)) (rows[i] :: rows.drop (i + 1)) si = runR (m + 1) rows[i] si := by
            show (if (runR (m + 1) rows[i] si).1 = [] then runB (runR (m + 1)) (rows.drop (i + 1)) (runR (m + 1) rows[i] si).2 else runR (m + 1) rows[i] si) = _
            rw [if_neg hne]
          rw [er, e2] at q
          exact ⟨_, rfl, q tf H6 f' (g5.same s6) (plt_same hf s6) hperm (b5.trans fun x o h _ => s6 x o h)⟩
        · have he : f' = [] := by simpa using he
          have he : (runR (m + 1) rows[i] si).1 = [] := by
            rw [he] at hperm
            exact hperm.symm.eq_nil
          have e2 : runB (runR (m + 1)) (rows[i] :: rows.drop (i + 1)) si = runB (runR (m + 1)) (rows.drop (i + 1)) (runR (m + 1) rows[i] si).2 := by
            show (if (runR (m + 1) rows[i] si).1 = [] then runB (runR (m + 1)) (rows.drop (i + 1)) (runR (m + 1) rows[i] si).2 else runR (m + 1) rows[i] si) = _
            rw [if_pos he]
          exact ⟨_, _, _, _, _, (runR (m + 1) rows[i] si).2, rfl, g5.same s6, (run_ok hW (m + 1) _ hdi si lk1).ok, b5.trans (fun x o h _ => s6 x o h), er.trans e2, by omega⟩
    · rintro σ H1 ⟨y2, y3, y4, y5, y6, si, rfl, g1, lk1, b1, er, hs1⟩
      rw [hlen, List.drop_length] at er
      rw [er] at q
      refine ⟨Nat.zero_le _, fun p op np hop => ?_⟩
      have s1 := same_upd (o := .frz op (.tup [])) np
      exact q p _ [] (g1.same s1) ⟨op, upd_same, hop⟩ (List.Perm.refl _) (b1.trans fun x o h _ => s1 x o h)
end
end TP
namespace TP
open PySem PySem.Spec PyProof.Rows L2 HX HB HG HU HH HD HS HV HQ HK HN HJ TL HM HP HR HO HC HF
section
variable {P : Program} {w : World} {K : PySem.W.Frag} {mg : Str → Option Value} {base : Heap}
theorem ok_alo (T : Tp K w mg) : ∀ n, FnOk P w K mg base CX0 (n + 54 + 1) T.f_alo T.fd_alo ["_law_rows", "_law_held"] (spAlo K n) := rec_fn (c := 54) (sp := spAlo K) fun n ih => ok_alo1 T n (n + 54) (by omega) ih
def spDue (K : PySem.W.Frag) (C : Addr) : Sp := fun vs H Q _ => ∃ (H0 : Hp) (p : Addr) (cs : List (Str × Int)) (ls : List Str) (hs : List (Str × Int)) (rows : List PyData) (spots : List (List Int)) (W ln hn : List Str), vs = [.ref p] ∧ Pf K H0 H p C cs ls hs rows spots ∧ (∀ x ∈ rows, Do Clx W (cs.map (·.1)) ln hn 10 x) ∧ NoW W ∧ costB 10 rows < 10 ^ 7 ∧ cs.length ≤ 1000 ∧
  (390 < 1 + 2 * (runB (runR 10) rows (s0 cs)).2.steps → ∀ H', Same H H' → Q .non H') ∧
  (1 + 2 * (runB (runR 10) rows (s0 cs)).2.steps ≤ 390 → ∀ (t S' T' f : Addr) (H' : Hp), Same H H' → SqT K H' t [.ref f, .ref S', .ref T', .int (runB (runR 10) rows (s0 cs)).2.now] → SqT K H' f ((runB (runR 10) rows (s0 cs)).1.map V.str) → H' S' = some (.dK (dI (runB (runR 10) rows (s0 cs)).2.cells)) → H' T' = some (.lst ((runB (runR 10) rows (s0 cs)).2.told.map V.int)) → H S' = none → H T' = none → S' ≠ T' → Q (.ref t) H')
theorem ok_ldue (T : Tp K w mg) : FnOk P w K mg base CX0 68 T.f_ldue T.fd_ldue ["_law_program"] (spDue K T.C_Program) := by
  refine T.D_ldue.F.ok sc_ldue (fun vs H Q E h => ?_) (fun cdv A outer st H vs Q E hr h => ?_)
  · obtain ⟨H0, p, cs, ls, hs, rows, spots, W, ln, hn, rfl, _⟩ := h
    rfl
  · obtain ⟨H0, p, cs, ls, hs, rows, spots, W, ln, hn, rfl, g, hdo, hW, hco, hcs, q1, q2⟩ := h
    have hu := hu_of hr
    refine ⟨_, (pss_cons (ps_set (i := 1) sc_ldue.nd rfl (.inl rfl) (pe_disp (pps_cons pe_str (pe_meth0 (pv 0) T.cl_Program T.m_pcells (ok_pcells T) (hr.mono (by omega)) T.b_pcells .nil pass0) (pps_cons pe_str pe_dnewK (pps_cons pe_str (pe_lst pa_nil) (pps_cons pe_str pe_int (pps_cons pe_str pe_int pps_nil))))) (by rfl) (by rfl) (fun z => by cases z) (by decide)))
  (pss_cons (ps_set (i := 2) sc_ldue.nd rfl (.inl rfl) (pcall T.D_alo (ok_alo T 10) (hr.mono (by omega)) (by rfl) (pa_cons (pe_meth0 (pv 0) T.cl_Program T.m_pbody (ok_pbody T) (hr.mono (by omega)) T.b_pbody .nil pass0) (pa_cons (pv 1) pa_nil))))
  (pss_cons (ps_if (pt_cmpR op_gt (pe_dget hu (pv 1) pe_str (fun _ _ => rfl)) pe_int (nomark _))
  (pss_one (ps_ret pe_non))
  pss_nil)
  (pss_one (ps_ret (pe_tup (pa_cons (pe_callTy call_tuple_of (by rfl) T.tuple (by decide +kernel) (pa_cons (pe_callB (HAC.cr_sortDT hr.units) (by rfl) T.sorted (by decide +kernel) (pa_cons (pv 2) pa_nil)) pa_nil)) (pa_cons (pe_dget hu (pv 1) pe_str (fun _ _ => rfl)) (pa_cons (pe_dget hu (pv 1) pe_str (fun _ _ => rfl)) (pa_cons (pe_dget hu (pv 1) pe_str (fun _ _ => rfl)) pa_nil)))))))))), ?_⟩
    obtain ⟨⟨pdx, ps, pf, pl, pw, b, pvs, hp, hb, _⟩, htu⟩ := id g
    refine fun d nd => ?_
    have s1 := same_upd (o := .dK []) nd
    have hd1 : (upd H d (.dK [])) d = some (.dK []) := upd_same
    generalize upd H d (.dK []) = H1 at s1 hd1 ⊢
    refine ⟨_, rfl, p, pdx, _, rfl, s1 _ _ hp, rfl, H0, p, cs, ls, hs, rows, spots, rfl, g.same s1, fun S nS => ?_⟩
    have s2 := same_upd (o := .dK (dI cs)) nS
    have hS2 : (upd H1 S (.dK (dI cs))) S = some (.dK (dI cs)) := upd_same
    have nS1 := nS
    generalize upd H1 S (.dK (dI cs)) = H2 at s2 hS2 ⊢
    refine fun B nB => ?_
    have s3 := same_upd (o := .dK []) nB
    have hB3 : (upd H2 B (.dK [])) B = some (.dK []) := upd_same
    have nB2 := nB
    generalize upd H2 B (.dK []) = H3 at s3 hB3 ⊢
    refine ⟨Nat.zero_le _, fun t nt => ?_⟩
    have s4 := same_upd (o := .lst []) nt
    have ht4 : (upd H3 t (.lst [])) t = some (.lst []) := upd_same
    have nt3 := nt
    generalize upd H3 t (.lst []) = H4 at s4 ht4 ⊢
    have hd4 := ((s2.trans s3).trans s4) _ _ hd1
    refine ⟨hd4, [(Sum.inr "cells", .ref S), (Sum.inr "words", .ref B), (Sum.inr "told", .ref t), (Sum.inr "now", .int 0), (Sum.inr "steps", .int 1)], rfl, by show 5 ≤ 15; decide, ?_⟩
    have eh : (upd H4 d (.dK (mergeK [] [((Sum.inr "cells" : Key), V.ref S), (Sum.inr "words", V.ref B), (Sum.inr "told", V.ref t), (Sum.inr "now", V.int 0), (Sum.inr "steps", V.int 1)]))) d = some (.dK (heL S B t 0 (1 + 2 * ((0 : Nat) : Int)))) := by rw [upd_same]; rfl
    have s15 : Same H (upd H4 d (.dK (mergeK [] [((Sum.inr "cells" : Key), V.ref S), (Sum.inr "words", V.ref B), (Sum.inr "told", V.ref t), (Sum.inr "now", V.int 0), (Sum.inr "steps", V.int 1)]))) := (((s1.trans s2).trans s3).trans s4).own nd
    have dS : d ≠ S := fun e => by rw [← e, hd1] at nS1; cases nS1
    have dB : d ≠ B := fun e => by rw [← e, s2 _ _ hd1] at nB2; cases nB2
    have dt : d ≠ t := fun e => by rw [← e, (s2.trans s3) _ _ hd1] at nt3; cases nt3
    have SB : S ≠ B := fun e => by rw [← e, hS2] at nB2; cases nB2
    have St : S ≠ t := fun e => by rw [← e, s3 _ _ hS2] at nt3; cases nt3
    have Bt : B ≠ t := fun e => by rw [← e, hB3] at nt3; cases nt3
    have hS5 : (upd H4 d (.dK (mergeK [] [((Sum.inr "cells" : Key), V.ref S), (Sum.inr "words", V.ref B), (Sum.inr "told", V.ref t), (Sum.inr "now", V.int 0), (Sum.inr "steps", V.int 1)]))) S = some (.dK (dI cs)) := by rw [upd_ne dS.symm]; exact (s3.trans s4) _ _ hS2
    have hB5 : (upd H4 d (.dK (mergeK [] [((Sum.inr "cells" : Key), V.ref S), (Sum.inr "words", V.ref B), (Sum.inr "told", V.ref t), (Sum.inr "now", V.int 0), (Sum.inr "steps", V.int 1)]))) B = some (.dK []) := by rw [upd_ne dB.symm]; exact s4 _ _ hB3
    have ht5 : (upd H4 d (.dK (mergeK [] [((Sum.inr "cells" : Key), V.ref S), (Sum.inr "words", V.ref B), (Sum.inr "told", V.ref t), (Sum.inr "now", V.int 0), (Sum.inr "steps", V.int 1)]))) t = some (.lst []) := by rw [upd_ne dt.symm]; exact ht4
    refine gen3 fun H5 e5 => ?_
    rw [← e5] at eh s15 hS5 hB5 ht5
    clear e5
    have gh : HeAt H5 d S B t (s0 cs) := ⟨eh, hS5, hB5, ht5, dS, dB, dt, SB, St, Bt⟩
    have SH : H S = none := s1.free nS1
    have BH : H B = none := (s1.trans s2).free nB2
    have tH : H t = none := ((s1.trans s2).trans s3).free nt3
    refine ⟨_, rfl, p, pdx, _, rfl, s15 _ _ hp, rfl, H0, p, cs, ls, hs, rows, spots, rfl, g.same s15, fun v hv => ⟨_, rfl, d, S, B, t, v, s0 cs, cs.map (·.1), W, ln, hn, rows, rfl, gh, ⟨Nat.le_refl _, Nat.le_refl _, rfl⟩, hv, htu, hdo, hW, by show 0 + costB 10 rows < 10 ^ 7; omega, by rw [List.length_map]; exact hcs, fun tf H6 f' g6 hf6 hp6 b6 => ?_⟩⟩
    have s06 : Same H H6 := fun b o h => b6 b o (s15 b o h) (fun hm => by
      simp only [List.mem_cons, List.not_mem_nil, or_false] at hm
      rcases hm with e | e | e | e
      · rw [e, nd] at h; cases h
      · rw [e, SH] at h; cases h
      · rw [e, BH] at h; cases h
      · rw [e, tH] at h; cases h)
    have hok := runB_ok hW 10 rows hdo (s0 cs) ⟨Nat.le_refl _, Nat.le_refl _, rfl⟩
    have esr : srt f' = (runB (runR 10) rows (s0 cs)).1 := (srt_congr hp6).trans hok.srt
    clear hok hdo hco
    generalize runB (runR 10) rows (s0 cs) = r at *
    refine ⟨_, rfl, d, _, rfl, DGet.k (k := Sum.inr "steps") g6.hd, _, _, rfl, rfl, _, rfl, ite2 (fun hlt => ?_) (fun hlt => nx_ ?_)⟩
    · have hlt : (390 : Int) < 1 + 2 * (r.2.steps : Int) := of_decide_eq_true hlt
      exact q1 (by omega) H6 s06
    · have hlt : ¬ (390 : Int) < 1 + 2 * (r.2.steps : Int) := fun h => hlt (decide_eq_true h)
      have q2 := q2 (by omega)
      refine ⟨_, rfl, tf, _, _, rfl, hf6.sqt, dp_strs _, strs_alike _, strs_sortable _, strs_depth _, fun l nl => ?_⟩
      rw [srt_eq, esr]
      have s7 := same_upd (o := .lst (r.1.map V.str)) nl
      have hl7 : (upd H6 l (.lst (r.1.map V.str))) l = some (.lst (r.1.map V.str)) := upd_same
      generalize upd H6 l (.lst (r.1.map V.str)) = H7 at s7 hl7 ⊢
      refine ⟨l, _, rfl, .inl ⟨sl hl7, fun ft nft => ?_⟩⟩
      have s8 := same_upd (o := .tup (r.1.map V.str)) nft
      have hft : (upd H7 ft (.tup (r.1.map V.str))) ft = some (.tup (r.1.map V.str)) := upd_same
      generalize upd H7 ft (.tup (r.1.map V.str)) = H8 at s8 hft ⊢
      have s78 := s7.trans s8
      refine ⟨_, rfl, d, _, rfl, DGet.k (k := Sum.inr "cells") (s78 _ _ g6.hd), _, rfl, d, _, rfl, DGet.k (k := Sum.inr "told") (s78 _ _ g6.hd), _, rfl, d, _, rfl, DGet.k (k := Sum.inr "now") (s78 _ _ g6.hd), by show 4 ≤ sizeLine; decide, fun tt ntt => ?_⟩
      have s9 := same_upd (o := .tup [.ref ft, .ref S, .ref t, .int r.2.now]) ntt
      have s79 := s78.trans s9
      exact q2 tt S t ft _ (s06.trans s79) (stt upd_same) (s9.sqt (stt hft)) (s79 _ _ g6.hS) (s79 _ _ g6.hT) SH tH St
end
end TP
namespace TP
open PySem PySem.Spec PyProof.Rows L2 HX HB HG HU HH HD HS HV HQ HK HN HJ TL HM HP HR HO HC HF
/-! ### how large a number may be -/
theorem look_bd {ws : List (Str × Int)} {M : Nat} (hw : ∀ q ∈ ws, q.2.natAbs ≤ M) (z : Str) : ((look ws z).getD 0).natAbs ≤ M := by
  unfold look
  cases e : ws.find? fun p => decide (p.1 = z) with
  | none => exact Nat.zero_le _
  | some q => exact hw q (List.mem_of_find?_eq_some e)
theorem worth_bd {ws : List (Str × Int)} {M : Nat} (hM : 10 ^ 41 ≤ M) (hw : ∀ q ∈ ws, q.2.natAbs ≤ M) : ∀ (n : Nat) (x : PyData), x.depth ≤ n → isCalcD x = true → wtD x ≤ 130 → (wD ws x).natAbs ≤ 2 ^ n * M := by
  have lo : ∀ (n : Nat) {k : Nat}, k ≤ M → k ≤ 2 ^ n * M := fun n k h => Nat.le_trans h (Nat.le_mul_of_pos_left _ (Nat.two_pow_pos n))
  have hint : ∀ (n : Nat) (i : Int), wtD (.int i) ≤ 130 → i.natAbs ≤ 2 ^ n * M := fun n i h => by
    have h : (if i.natAbs ≤ 10 ^ 41 then 20 else 10 ^ 9) ≤ 130 := h
    split at h
    · rename_i h1; exact lo n (Nat.le_trans h1 hM)
    · exact absurd h (by decide)
  intro n
  induction n with
  | zero =>
    intro x hx hc hwt
    cases x with
    | int i => exact hint 0 i hwt
    | str z => exact lo 0 (look_bd hw z)
    | tuple xs => simp [PyData.depth] at hx
    | _ => cases hc
  | succ n ih =>
    intro x hx hc hwt
    cases x with
    | int i => exact hint (n + 1) i hwt
    | str z => exact lo (n + 1) (look_bd hw z)
    | tuple xs =>
      match xs, hx, hc, hwt with
      | [.str k, a, b], hx, hc, hwt =>
        have hc : (isKindD (.str k) && (isCalcD a && isCalcD b)) = true := hc
        simp only [Bool.and_eq_true] at hc
        have hdep : PyData.depthAll [PyData.str k, a, b] + 1 ≤ n + 1 := hx
        simp only [PyData.depthAll] at hdep
        have hwt : 4 + (k.length + 4 + (wtD a + (wtD b + 0))) ≤ 130 := hwt
        have h1 := ih a (by omega) hc.2.1 (by omega)
        have h2 := ih b (by omega) hc.2.2 (by omega)
        have e : wD ws (.tuple [.str k, a, b]) = (kdOf k).run (wD ws a) (wD ws b) := rfl
        have p2 : 2 ^ (n + 1) * M = 2 ^ n * M + 2 ^ n * M := by rw [Nat.pow_succ, Nat.mul_comm (2 ^ n) 2, Nat.mul_assoc]; omega
        have p1 : 1 ≤ 2 ^ n * M := lo n (Nat.le_trans (by decide) hM)
        rw [e, p2]
        cases kdOf k with
        | sum => show (wD ws a + wD ws b).natAbs ≤ _; omega
        | minus => show (wD ws a - wD ws b).natAbs ≤ _; omega
        | less => show (if wD ws a < wD ws b then (1 : Int) else 0).natAbs ≤ _; split <;> (first | (show 1 ≤ _; omega) | exact Nat.zero_le _)
      | [], _, hc, _ => cases hc
      | [_], _, hc, _ => cases hc
      | [_, _], _, hc, _ => cases hc
      | .int _ :: _ :: _ :: [], _, hc, _ => cases hc
      | _ :: _ :: _ :: _ :: _, _, hc, _ => cases hc
    | _ => cases hc
theorem Clc.clx {x : PyData} (h : Clc x) : Clx x := ⟨h.cal, Nat.le_trans h.good.dep (by decide), h.tup, fun ws M hM hw => worth_bd hM hw 2 x h.good.dep h.cal h.wt⟩
theorem putI_mem {l : List (Str × Int)} {z : Str} {i : Int} {q : Str × Int} (h : q ∈ putI l z i) : q ∈ l ∨ q = (z, i) := by
  unfold putI at h
  split at h
  · obtain ⟨p, hp, e⟩ := List.mem_map.mp h
    by_cases hz : p.1 = z
    · rw [if_pos hz] at e; rw [← e, hz]; exact .inr rfl
    · rw [if_neg hz] at e; rw [← e]; exact .inl hp
  · rcases List.mem_append.mp h with h | h
    · exact .inl h
    · exact .inr (List.mem_singleton.mp h)
abbrev mg4 (s : Ls) : Nat := 10 ^ 41 * 4 ^ s.steps
structure BdI (s : Ls) : Prop where
  w : ∀ q ∈ s.words, q.2.natAbs ≤ mg4 s
  c : ∀ q ∈ s.cells, q.2.natAbs ≤ mg4 s
  t : ∀ i ∈ s.told, i.natAbs ≤ mg4 s
  l : s.told.length ≤ s.steps
  n : 0 ≤ s.now ∧ s.now ≤ 9 * s.steps
theorem mg4_up (s : Ls) : mg4 (upS s) = 4 * mg4 s := by
  show 10 ^ 41 * 4 ^ (s.steps + 1) = 4 * (10 ^ 41 * 4 ^ s.steps)
  rw [Nat.pow_succ]
  omega
theorem run_bd {W cn ln hn : List Str} (hW : NoW W) : ∀ (n : Nat) (row : PyData), Do Clx W cn ln hn n row → ∀ s, BdI s → BdI (runR n row s).2 := by
  intro n
  induction n with
  | zero => intro row h; cases h
  | succ n ih =>
    have body : ∀ (rows : List PyData), (∀ x ∈ rows, Do Clx W cn ln hn n x) → ∀ s, BdI s → BdI (runB (runR n) rows s).2 := fun rows h s hs =>
      (runB_ind (Pr := fun _ => True) (I := BdI) (fun _ _ => trivial) rows s hs fun r hr s hs => ⟨trivial, ih r (h r hr) s hs⟩).2
    intro row h s hs
    have e4 := mg4_up s
    have up : ∀ {k : Nat}, k ≤ mg4 s → k ≤ mg4 (upS s) := fun h => by omega
    have hu : BdI (upS s) := ⟨fun q hq => up (hs.w q hq), fun q hq => up (hs.c q hq), fun i hi => up (hs.t i hi), Nat.le_succ_of_le hs.l, hs.n.1, by have := hs.n.2; show s.now ≤ 9 * ((s.steps + 1 : Nat) : Int); omega⟩
    have m13 : 10 ^ 41 ≤ mg4 s := Nat.le_mul_of_pos_right _ (Nat.pow_pos (by decide))
    have wb : ∀ {x : PyData}, Clx x → (wD s.words x).natAbs ≤ mg4 (upS s) := fun hx => by
      have := hx.bd _ _ m13 hs.w
      omega
    cases h with
    | put h1 h2 => exact ⟨fun q hq => (putI_mem hq).elim (hu.w q) (fun e => by rw [e]; exact wb h2), hu.c, hu.t, hu.l, hu.n⟩
    | read h1 h2 => exact ⟨fun q hq => (putI_mem hq).elim (hu.w q) (fun e => by rw [e]; exact look_bd hu.c _), hu.c, hu.t, hu.l, hu.n⟩
    | write h1 h2 => exact ⟨hu.w, fun q hq => (putI_mem hq).elim (hu.c q) (fun e => by rw [e]; exact wb h2), hu.t, hu.l, hu.n⟩
    | tell h1 => exact ⟨hu.w, hu.c, fun i hi => (List.mem_append.mp hi).elim (hu.t i) (fun e => by rw [List.mem_singleton.mp e]; exact wb h1), by show (s.told ++ [_]).length ≤ s.steps + 1; have := hs.l; rw [List.length_append, List.length_singleton]; omega, hu.n⟩
    | rest h1 h2 => exact ⟨hu.w, hu.c, hu.t, hu.l, by have := hs.n.1; show 0 ≤ s.now + _; omega, by have := hs.n.2; show s.now + _ ≤ 9 * ((s.steps + 1 : Nat) : Int); omega⟩
    | fail h1 => exact hu
    | send h1 => exact absurd h1 hW.1
    | take h1 => exact absurd h1 hW.2.1
    | off h1 => exact absurd h1 hW.2.2
    | hold _ hb => exact body _ hb _ hu
    | nest _ hb => exact body _ hb _ hu
    | within _ _ _ _ hb => exact body _ hb _ hu
    | start _ _ hb => exact body _ hb _ hu
    | shield hb => exact body _ hb _ hu
    | try_ h1 h2 => exact body _ h2 _ (body _ h1 _ hu)
    | catch_ hn' h1 h2 =>
      rename_i nm rows rows2
      show BdI (if (runB (runR n) rows (upS s)).1 ≠ [] ∧ ∀ x ∈ (runB (runR n) rows (upS s)).1, x = nm then runB (runR n) rows2 (runB (runR n) rows (upS s)).2 else runB (runR n) rows (upS s)).2
      split
      · exact body _ h2 _ (body _ h1 _ hu)
      · exact body _ h1 _ hu
    | if_ hc h1 h2 =>
      rename_i c rows rows2
      show BdI (if wD (upS s).words c ≠ 0 then runB (runR n) rows (upS s) else runB (runR n) rows2 (upS s)).2
      split
      · exact body _ h1 _ hu
      · exact body _ h2 _ hu
    | often _ _ h1 => exact (loopB_ind (Pr := fun _ => True) (I := BdI) (fun _ _ => trivial) (fun s hs => ⟨trivial, body _ h1 s hs⟩) _ _ hu).2
theorem runB_bd {W cn ln hn : List Str} (hW : NoW W) (n : Nat) (rows : List PyData) (h : ∀ x ∈ rows, Do Clx W cn ln hn n x) (s : Ls) (hs : BdI s) : BdI (runB (runR n) rows s).2 :=
  (runB_ind (Pr := fun _ => True) (I := BdI) (fun _ _ => trivial) rows s hs fun r hr s hs => ⟨trivial, run_bd hW n r (h r hr) s hs⟩).2
end TP
namespace TP
open PySem PySem.Spec PyProof.Rows L2 HX HB HG HU HH HD HS HV HQ HK HN HJ TL HM HP HR HO HC HF
/-! ### what may be shown, with long numbers -/
structure ShB (d : PyData) (n : Nat) : Prop where
  sw : d.showable = true
  lv : d.leavesShort 170 = true
  bk : d.bulk ≤ n
  nd : d.hasDict = false
theorem ShB.fits {d : PyData} {n : Nat} (h : ShB d n) (hn : n ≤ 90000) : d.shown.length ≤ sizeLine := by
  have h1 := PyData.shown_le_bulk 170 (by decide) d h.lv
  have h2 := h.bk
  rw [sizeLine_eq]
  omega
theorem ShB.mono {d : PyData} {n m : Nat} (h : ShB d n) (k : n ≤ m) : ShB d m := ⟨h.sw, h.lv, Nat.le_trans h.bk k, h.nd⟩
theorem shB_int {i : Int} (h : i.natAbs < 10 ^ 169) : ShB (.int i) 0 := by
  refine ⟨decide_eq_true ?_, ?_, Nat.le_refl _, rfl⟩
  · by_cases h0 : i.natAbs = 0
    · rw [h0]; decide
    · exact (Nat.log2_lt h0).mpr (Nat.lt_trans h (by decide +kernel))
  · have h1 := int_text_length_le10 (k := 169) (by decide) h
    have h2 : (PyData.shown (.int i)).length ≤ 170 := by
      show (Str.ofString (toString i)).length ≤ 170
      rw [PySem.ofString_length]
      exact h1
    exact decide_eq_true h2
theorem shB_str {z : Str} (h : PyData.canLay0 (.str z) = true) : ShB (.str z) z.length := by
  refine ⟨rfl, ?_, Nat.le_refl _, rfl⟩
  have h : z.cps.all (fun c => decide (c < 0x110000)) = true := h
  rw [← Array.all_toList, List.all_eq_true] at h
  show z.cps.toList.all (fun c => decide (c < 16 ^ 8)) = true
  rw [List.all_eq_true]
  intro c hc
  have := of_decide_eq_true (h c hc)
  exact decide_eq_true (Nat.lt_trans this (by decide))
theorem shB_all {m : Nat} : ∀ {xs : List PyData}, (∀ x ∈ xs, ShB x m) → PyData.showableAll xs = true ∧ PyData.leavesShortAll 170 xs = true ∧ PyData.bulkAll xs ≤ xs.length * (m + 1) ∧ PyData.hasDictAll xs = false
  | [], _ => ⟨rfl, rfl, Nat.zero_le _, rfl⟩
  | x :: xs, h => by
    obtain ⟨h1, h2, h3, h4⟩ := shB_all (xs := xs) fun y hy => h y (List.mem_cons_of_mem _ hy)
    have hx := h x (List.mem_cons_self ..)
    refine ⟨by simp only [PyData.showableAll, hx.sw, h1, Bool.and_self], by simp only [PyData.leavesShortAll, hx.lv, h2, Bool.and_self], ?_, by simp only [PyData.hasDictAll, hx.nd, h4, Bool.or_self]⟩
    have := hx.bk
    show PyData.bulk x + 1 + PyData.bulkAll xs ≤ (xs.length + 1) * (m + 1)
    rw [Nat.add_mul]
    omega
theorem shB_tup {m n : Nat} {xs : List PyData} (h : ∀ x ∈ xs, ShB x m) (hn : xs.length * (m + 1) ≤ n) : ShB (.tuple xs) n := by
  obtain ⟨h1, h2, h3, h4⟩ := shB_all h
  exact ⟨h1, h2, Nat.le_trans h3 hn, h4⟩
theorem shB_lst {m n : Nat} {xs : List PyData} (h : ∀ x ∈ xs, ShB x m) (hn : xs.length * (m + 1) ≤ n) : ShB (.list xs) n := by
  obtain ⟨h1, h2, h3, h4⟩ := shB_all h
  exact ⟨h1, h2, Nat.le_trans h3 hn, h4⟩
/-! ### data sorted -/
theorem dpAll_zip {K : PySem.W.Frag} {H : Hp} : ∀ {xs : List V} {ds : List PyData}, DpAll K H xs ds → ∀ p ∈ xs.zip ds, Dp K H p.1 p.2
  | _, _, .nil, p, h => by cases h
  | _, _, .cons h t, p, hp => by
    rcases List.mem_cons.mp hp with e | e
    · rw [e]; exact h
    · exact dpAll_zip t p e
theorem dpAll_map {K : PySem.W.Frag} {H : Hp} : ∀ (l : List (V × PyData)), (∀ p ∈ l, Dp K H p.1 p.2) → DpAll K H (l.map (·.1)) (l.map (·.2))
  | [], _ => .nil
  | p :: l, h => .cons (h p (List.mem_cons_self ..)) (dpAll_map l fun q hq => h q (List.mem_cons_of_mem _ hq))
def srtD (ds : List PyData) : List PyData := ds.mergeSort (PySem.W.dataLe false fun d => d)
theorem srtD_perm (ds : List PyData) : (srtD ds).Perm ds := List.mergeSort_perm _ _
theorem dpAll_sort {K : PySem.W.Frag} {H : Hp} {xs : List V} {ds : List PyData} (h : DpAll K H xs ds) : DpAll K H (sortD xs ds) (srtD ds) := by
  have el := dpAll_len h
  have e : srtD ds = ((xs.zip ds).mergeSort (PySem.W.dataLe false (·.2))).map (·.2) := by
    have h1 := List.map_mergeSort (r := PySem.W.dataLe false fun b : V × PyData => b.2) (s := PySem.W.dataLe false fun d : PyData => d) (f := fun b : V × PyData => b.2) (l := xs.zip ds) (fun x _ y _ => rfl)
    rw [zip_snd el] at h1
    exact h1.symm
  rw [e]
  exact dpAll_map _ fun p hp => dpAll_zip h p ((List.mergeSort_perm _ _).mem_iff.mp hp)
def kvD (q : Str × Int) : PyData := .tuple [.str q.1, .int q.2]
theorem paired_up {α β : Type} {F G : α → β → Prop} (h : ∀ a b, F a b → G a b) : ∀ {as : List α} {bs : List β}, Paired F as bs → Paired G as bs
  | _, _, .nil => .nil
  | _, _, .cons r t => .cons (h _ _ r) (paired_up h t)
theorem dp_pairs {K : PySem.W.Frag} {H : Hp} : ∀ {ts : List Addr} {cs : List (Str × Int)}, Paired (fun (t : Addr) (q : Key × V) => H t = some (.tup [kV q.1, q.2])) ts (dI cs) → DpAll K H (ts.map V.ref) (cs.map kvD)
  | [], [], _ => .nil
  | t :: ts, q :: cs, h => by
    cases h with
    | cons h1 h2 => exact .cons (.tup (stt h1) (.cons (.str _) (.cons (.int _) .nil))) (dp_pairs h2)
  | [], _ :: _, h => by cases h
  | _ :: _, [], h => by cases h
theorem pairs_alike (cs : List (Str × Int)) : PySem.W.AllAlike (cs.map kvD) := by
  intro d hd d' hd'
  obtain ⟨q, _, rfl⟩ := List.mem_map.mp hd
  obtain ⟨q', _, rfl⟩ := List.mem_map.mp hd'
  rfl
theorem pairs_sortable (cs : List (Str × Int)) : PySem.W.Sortable (cs.map kvD) := .inl fun d hd => by
  obtain ⟨q, _, rfl⟩ := List.mem_map.mp hd
  exact ⟨_, _, rfl⟩
theorem pairs_depth (cs : List (Str × Int)) : ∀ d ∈ cs.map kvD, d.depth ≤ 60 := fun d hd => by
  obtain ⟨q, _, rfl⟩ := List.mem_map.mp hd
  show 1 ≤ 60
  decide
theorem depAll_le {m : Nat} : ∀ {xs : List PyData}, (∀ x ∈ xs, x.depth ≤ m) → PyData.depthAll xs ≤ m
  | [], _ => Nat.zero_le _
  | x :: xs, h => by
    show max x.depth (PyData.depthAll xs) ≤ m
    exact Nat.max_le.mpr ⟨h x (List.mem_cons_self ..), depAll_le fun y hy => h y (List.mem_cons_of_mem _ hy)⟩
def cellsD (cs : List (Str × Int)) : PyData := .list (srtD (cs.map kvD))
def restD (r : Rz) : PyData := .tuple [.tuple (r.1.map .str), .list (r.2.told.map .int), .int r.2.now]
theorem mg4_lt {s : Ls} (h : s.steps ≤ 195) : mg4 s < 10 ^ 169 := by
  have h1 : 4 ^ s.steps ≤ 4 ^ 195 := Nat.pow_le_pow_right (by decide) h
  have h2 : 10 ^ 41 * 4 ^ 195 < 10 ^ 169 := by decide +kernel
  exact Nat.lt_of_le_of_lt (Nat.mul_le_mul_left _ h1) h2
theorem nm_can {z : Str} (h : isNameL z = true) : PyData.canLay0 (.str z) = true :=
  (Good.str (Low.of h) 0).lay
theorem cells_show {s : Ls} (bd : BdI s) (h : s.steps ≤ 195) (hn : ∀ q ∈ s.cells, isNameL q.1 = true) (hl : s.cells.length ≤ 4) : ShB (cellsD s.cells) 1000 ∧ (cellsD s.cells).depth ≤ 60 := by
  have hp := srtD_perm (s.cells.map kvD)
  have hlen : (srtD (s.cells.map kvD)).length = s.cells.length := by rw [hp.length_eq, List.length_map]
  refine ⟨shB_lst (m := 20) (fun d hd => ?_) (by rw [hlen]; omega), ?_⟩
  · obtain ⟨q, hq, rfl⟩ := List.mem_map.mp (hp.mem_iff.mp hd)
    have l1 := (name_len (hn q hq)).2
    refine shB_tup (m := 6) (fun x hx => ?_) (by show 2 * 7 ≤ 20; decide)
    simp only [List.mem_cons, List.not_mem_nil, or_false] at hx
    rcases hx with e | e
    · rw [e]; exact (shB_str (nm_can (hn q hq))).mono l1
    · rw [e]; exact (shB_int (Nat.lt_of_le_of_lt (bd.c q hq) (mg4_lt h))).mono (Nat.zero_le _)
  · show PyData.depthAll _ + 1 ≤ 60
    have := depAll_le (xs := srtD (s.cells.map kvD)) (m := 1) fun d hd => by
      obtain ⟨q, hq, rfl⟩ := List.mem_map.mp (hp.mem_iff.mp hd)
      exact Nat.le_refl 1
    omega
theorem rest_show {r : Rz} (hn : RzNm r) (bd : BdI r.2) (h : r.2.steps ≤ 195) (hl : r.1.length ≤ 1000) : ShB (restD r) 30000 ∧ (restD r).depth ≤ 60 := by
  refine ⟨shB_tup (m := 9000) (fun x hx => ?_) (by show 3 * 9001 ≤ 30000; decide), ?_⟩
  · simp only [List.mem_cons, List.not_mem_nil, or_false] at hx
    rcases hx with e | e | e
    · rw [e]
      refine shB_tup (m := 6) (fun x hx => ?_) (by rw [List.length_map]; omega)
      obtain ⟨z, hz, rfl⟩ := List.mem_map.mp hx
      exact (shB_str (nm_can (hn z hz))).mono (name_len (hn z hz)).2
    · rw [e]
      refine shB_lst (m := 0) (fun x hx => ?_) (by have := bd.l; rw [List.length_map]; omega)
      obtain ⟨i, hi, rfl⟩ := List.mem_map.mp hx
      exact shB_int (Nat.lt_of_le_of_lt (bd.t i hi) (mg4_lt h))
    · rw [e]
      have h1 := bd.n
      exact (shB_int (Nat.lt_of_le_of_lt (m := 10000) (by omega) (by decide +kernel))).mono (Nat.zero_le _)
  · show max (PyData.depthAll _ + 1) (max (PyData.depthAll _ + 1) (max 0 0)) + 1 ≤ 60
    have h1 := depAll_le (xs := r.1.map PyData.str) (m := 0) fun d hd => by
      obtain ⟨q, hq, rfl⟩ := List.mem_map.mp hd
      exact Nat.le_refl 0
    have h2 := depAll_le (xs := r.2.told.map PyData.int) (m := 0) fun d hd => by
      obtain ⟨q, hq, rfl⟩ := List.mem_map.mp hd
      exact Nat.le_refl 0
    omega
end TP
namespace TP
open PySem PySem.Spec PyProof.Rows L2 HX HB HG HU HH HD HS HV HQ HK HN HJ TL HM HP HR HO HC HF LiI
theorem seq_ {t u : TS} {D : Ends} {σ : L2.St} {H : Hp} (h : t { D with nx := u D } σ H) : tSeq t u D σ H := h
theorem ifs_ {c : TT} {t u : TS} {D : Ends} {σ : L2.St} {H : Hp} (h : c σ H fun b H1 => if b = true then t D σ H1 else u D σ H1) : tIfS c t u D σ H := h
theorem test_ {t : TE} {σ : L2.St} {H : Hp} {Q : Bool → Hp → Prop} (h : t σ H fun x H' => ∃ k, x = .bl k ∧ Q k H') : tTest t σ H Q := h
theorem ret_ {t : TE} {D : Ends} {σ : L2.St} {H : Hp} (h : t σ H D.rt) : tRet t D σ H := h
section
variable {P : Program} {w : World} {K : PySem.W.Frag} {mg : Str → Option Value} {base : Heap}
/-- errors, cells, told and the clock, as they stand -/
structure ToldAt (K : PySem.W.Frag) (H : Hp) (t S T f : Addr) (r : Rz) : Prop where
  ht : SqT K H t [.ref f, .ref S, .ref T, .int r.2.now]
  hf : SqT K H f (r.1.map V.str)
  hS : H S = some (.dK (dI r.2.cells))
  hT : H T = some (.lst (r.2.told.map V.int))
theorem ToldAt.same {K : PySem.W.Frag} {H H' : Hp} {t S T f : Addr} {r : Rz} (g : ToldAt K H t S T f r) (s : Same H H') : ToldAt K H' t S T f r := ⟨s.sqt g.ht, s.sqt g.hf, s _ _ g.hS, s _ _ g.hT⟩
def spSame (K : PySem.W.Frag) : Sp := fun vs H Q _ => ∃ (t S T f t2 S2 T2 f2 : Addr) (r : Rz) (cn : List Str), vs = [.ref t, .ref t2] ∧ ToldAt K H t S T f r ∧ ToldAt K H t2 S2 T2 f2 r ∧ RzNm r ∧ LsOk cn r.2 ∧ (∀ z ∈ cn, isNameL z = true) ∧ cn.Nodup ∧ cn.length ≤ 4 ∧ BdI r.2 ∧ r.2.steps ≤ 195 ∧ r.1.length ≤ 1000 ∧
  ∀ H', Same H H' → Q (.bl true) H'
theorem ok_lsame (T : Tp K w mg) : FnG P w K mg base CX0 1 T.f_lsame T.fd_lsame ["_law_found", "_law_due"] (spSame K) := by
  refine okGn T.D_lsame.F sc_lsame (fun vs H Q E h => ?_) (fun cdv A outer st H vs Q E sh hr h => ?_)
  · obtain ⟨t, S, T', f, t2, S2, T2, f2, r, cn, rfl, _⟩ := h
    rfl
  · obtain ⟨t, S, T', f, t2, S2, T2, f2, r, cn, rfl, g1, g2, hnm, lk, hcn, nd, c4, bd, hst, hfl, q⟩ := h
    have hu := hu_of hr
    have hs195 := hst
    have bdc := cells_show bd hst (fun q hq => by
      have : q.1 ∈ r.2.cells.map (·.1) := List.mem_map.mpr ⟨q, hq, rfl⟩
      rw [lk.ck] at this
      exact hcn _ this) (by have := congrArg List.length lk.ck; rw [List.length_map] at this; omega)
    have bdr := rest_show hnm bd hst hfl
    have sortS : ∀ {tt ff SS TT : Addr} {Hx : Hp} {R : VK} {te : TE} {σ : L2.St}, ToldAt K Hx tt SS TT ff r → (∀ Q : VK, Q (.ref SS) Hx → te σ Hx Q) → (∀ (z : V) (H' : Hp), z = .str (cellsD r.2.cells).shown → Same Hx H' → R z H') → tCB (rReprA K) (tCons (tCB (rSortD K) (tCons (tListItems te) tNil)) tNil) σ Hx R := fun {tt ff SS TT Hx R te σ} g ev k => by
      refine ev _ ?_
      refine ⟨SS, dI r.2.cells, rfl, g.hS, fun H1 p ts k1 np nts pts hp hpr => ⟨p, _, _, rfl, sl hp, dp_pairs hpr, pairs_alike _, pairs_sortable _, pairs_depth _, fun l nl => ?_⟩⟩
      have s2 := same_upd (o := .lst (sortD (ts.map V.ref) (r.2.cells.map kvD))) nl
      have hl2 : (upd H1 l (.lst (sortD (ts.map V.ref) (r.2.cells.map kvD)))) l = some (.lst (sortD (ts.map V.ref) (r.2.cells.map kvD))) := upd_same
      have hpr2 : Paired (fun (t : Addr) (q : Key × V) => (upd H1 l (.lst (sortD (ts.map V.ref) (r.2.cells.map kvD)))) t = some (.tup [kV q.1, q.2])) ts (dI r.2.cells) := paired_up (fun t kv e => s2 _ _ e) hpr
      generalize upd H1 l (.lst (sortD (ts.map V.ref) (r.2.cells.map kvD))) = H2 at s2 hl2 hpr2 ⊢
      exact ⟨_, cellsD r.2.cells, rfl, .lst (sl hl2) (dpAll_sort (dp_pairs hpr2)), bdc.1.sw, bdc.1.nd, bdc.2, bdc.1.fits (by decide), k _ H2 rfl ((fun b o h => s2 b o (k1 b o h)))⟩
    have restS : ∀ {tt ff SS TT : Addr} {Hx : Hp} {R : VK} {te : TA} {σ : L2.St}, ToldAt K Hx tt SS TT ff r → (∀ Q : List V → Hp → Prop, Q [V.ref ff, V.ref TT, V.int r.2.now] Hx → te σ Hx Q) → (∀ (z : V) (H' : Hp), z = .str (restD r).shown → Same Hx H' → R z H') → tCB (rReprA K) (tCons (tTup te) tNil) σ Hx R := fun {tt ff SS TT Hx R te σ} g ev k => by
      refine ev _ ?_
      refine ⟨by show 3 ≤ sizeLine; decide, fun p np => ?_⟩
      have s2 := same_upd (o := .tup [V.ref ff, V.ref TT, V.int r.2.now]) np
      have hp2 : (upd Hx p (.tup [V.ref ff, V.ref TT, V.int r.2.now])) p = some (.tup [V.ref ff, V.ref TT, V.int r.2.now]) := upd_same
      generalize upd Hx p (.tup [V.ref ff, V.ref TT, V.int r.2.now]) = H2 at s2 hp2 ⊢
      exact ⟨_, restD r, rfl, .tup (stt hp2) (.cons (.tup (s2.sqt g.hf) (dp_strs _)) (.cons (.lst (sl (s2 _ _ g.hT)) (dp_ints _)) (.cons (.int _) .nil))), bdr.1.sw, bdr.1.nd, bdr.2, bdr.1.fits (by decide), k _ H2 rfl s2⟩
    refine ⟨_, (pss_cons (ps_if (PW.pt (pw_or (pt_not (pt_val (pe_callB call_isi (by rfl) T.isinstance (by decide +kernel) (pa_cons (pv 0) (pa_cons (pe_bltn (v := .ty "tuple") (by rfl) T.tuple (by decide +kernel) rfl) pa_nil))))) (pw_or (pt_cmpR op_ne (pe_callB call_len_seq (by rfl) T.len PySem.boot_len (pa_cons (pv 0) pa_nil)) pe_int (nomark _)) (pw_or1 (pt_not (pt_val (pe_callB call_isi (by rfl) T.isinstance (by decide +kernel) (pa_cons (pe_ix ix_tup (pv 0) pe_int (fun _ _ => rfl)) (pa_cons (pe_bltn (v := .ty "dict") (by rfl) T.dict (by decide +kernel) rfl) pa_nil)))))))))
  (pss_one (ps_ret pe_bl))
  pss_nil)
  (pss_cons (ps_if (pt_cmpR op_ne (pe_callB (HK.call_reprA sh hr.units) (by rfl) T.repr (by decide +kernel) (pa_cons (pe_callB (cr_sortD hr.units) (by rfl) T.sorted (by decide +kernel) (pa_cons (pe_listItems rfl (pe_ix ix_tup (pv 0) pe_int (fun _ _ => rfl)) (by rfl) T.list (by decide +kernel)) pa_nil)) pa_nil)) (pe_callB (HK.call_reprA sh hr.units) (by rfl) T.repr (by decide +kernel) (pa_cons (pe_callB (cr_sortD hr.units) (by rfl) T.sorted (by decide +kernel) (pa_cons (pe_listItems rfl (pe_ix ix_tup (pv 1) pe_int (fun _ _ => rfl)) (by rfl) T.list (by decide +kernel)) pa_nil)) pa_nil)) (nomark _))
  (pss_one (ps_ret pe_bl))
  pss_nil)
  (pss_one (ps_ret (pe_cmpR op_eq (pe_callB (HK.call_reprA sh hr.units) (by rfl) T.repr (by decide +kernel) (pa_cons (pe_tup (pa_cons (pe_ix ix_tup (pv 0) pe_int (fun _ _ => rfl)) (pa_cons (pe_ix ix_tup (pv 0) pe_int (fun _ _ => rfl)) (pa_cons (pe_ix ix_tup (pv 0) pe_int (fun _ _ => rfl)) pa_nil)))) pa_nil)) (pe_callB (HK.call_reprA sh hr.units) (by rfl) T.repr (by decide +kernel) (pa_cons (pe_tup (pa_cons (pe_ix ix_tup (pv 1) pe_int (fun _ _ => rfl)) (pa_cons (pe_ix ix_tup (pv 1) pe_int (fun _ _ => rfl)) (pa_cons (pe_ix ix_tup (pv 1) pe_int (fun _ _ => rfl)) pa_nil)))) pa_nil)) (nomark _)))))), ?_⟩
    refine ⟨_, rfl, _, _, _, _, true, rfl, .ty "tuple", ty_tup g1.ht, kit_ty (by decide +kernel), true, rfl, ?_⟩
    refine ⟨_, rfl, _, _, rfl, .inr g1.ht, rfl, _, rfl, ?_⟩
    refine ⟨_, rfl, _, _, 1, _, rfl, rfl, g1.ht, rfl, _, _, _, _, true, rfl, .ty "dict", .base (.dK g1.hS), kit_ty (by decide +kernel), true, rfl, ?_⟩
    refine ite2 (fun h => absurd h (by decide)) fun _ => nx_ ?_
    refine seq_ (ifs_ (test_ (op_ (sortS g1 (fun Q q => ⟨_, rfl, _, _, 1, _, rfl, rfl, g1.ht, rfl, q⟩) fun z H2 hz s2 => ?_))))
    subst hz
    refine sortS (g2.same s2) (fun Q q => ⟨_, rfl, _, _, 1, _, rfl, rfl, s2.sqt g2.ht, rfl, q⟩) fun z H3 hz s3 => ?_
    subst hz
    have s23 := s2.trans s3
    refine ⟨rfl, _, rfl, ite2 (fun h => absurd h (by simp)) (fun _ => nx_ ?_)⟩
    have g13 := g1.same s23
    refine ret_ (op_ (restS g13 (fun Q q => ⟨_, rfl, _, _, 0, _, rfl, rfl, g13.ht, rfl, _, rfl, _, _, 2, _, rfl, rfl, g13.ht, rfl, _, rfl, _, _, 3, _, rfl, rfl, g13.ht, rfl, q⟩) fun z H4 hz s4 => ?_))
    subst hz
    have g24 := g2.same (s23.trans s4)
    refine restS g24 (fun Q q => ⟨_, rfl, _, _, 0, _, rfl, rfl, g24.ht, rfl, _, rfl, _, _, 2, _, rfl, rfl, g24.ht, rfl, _, rfl, _, _, 3, _, rfl, rfl, g24.ht, rfl, q⟩) fun z H5 hz s5 => ?_
    subst hz
    refine ⟨rfl, ?_⟩
    simp only [decide_true]
    exact q _ ((s23.trans s4).trans s5)
end
end TP
namespace TP
open PySem PySem.Spec PyProof.Rows L2 HX HB HG HU HH HD HS HV HQ HK HN HJ TL HM HP HR HO HC HF
/-! ### what a program takes, more exactly -/
def isOft : PyData → Bool
  | .tuple (.str z :: _) => decide (z = "often")
  | _ => false
def cost2 : Nat → PyData → Nat
  | 0, _ => 0
  | n + 1, row => 1 + (if isOft row = true then 3 else 1) * ((bodiesD row).map fun b => ((rowsD b).map (cost2 n)).sum).sum
def costC (n : Nat) (rows : List PyData) : Nat := (rows.map (cost2 n)).sum
section
variable {C : PyData → Prop} {W cn ln hn : List Str}
theorem run_steps2 (hW : NoW W) : ∀ (n : Nat) (row : PyData), Do C W cn ln hn n row → ∀ s, (runR n row s).2.steps ≤ s.steps + cost2 n row := by
  intro n
  induction n with
  | zero => intro row h; cases h
  | succ n ih =>
    have body : ∀ (rows : List PyData), (∀ x ∈ rows, Do C W cn ln hn n x) → ∀ s, (runB (runR n) rows s).2.steps ≤ s.steps + costC n rows := fun rows h s => runB_steps rows s fun r hr s => ih r (h r hr) s
    intro row h s
    have one : ∀ (rows : List PyData), (∀ x ∈ rows, Do C W cn ln hn n x) → (runB (runR n) rows (upS s)).2.steps ≤ s.steps + (1 + 1 * (costC n rows + 0)) := fun rows h => by
      have := body rows h (upS s)
      have e : (upS s).steps = s.steps + 1 := rfl
      omega
    have e1 : (upS s).steps = s.steps + 1 := rfl
    cases h with
    | put h1 h2 => exact Nat.le_refl _
    | read h1 h2 => exact Nat.le_refl _
    | write h1 h2 => exact Nat.le_refl _
    | tell h1 => exact Nat.le_refl _
    | rest h1 h2 => exact Nat.le_refl _
    | fail h1 => exact Nat.le_refl _
    | send h1 => exact absurd h1 hW.1
    | take h1 => exact absurd h1 hW.2.1
    | off h1 => exact absurd h1 hW.2.2
    | hold _ hb => exact one _ hb
    | nest _ hb => exact one _ hb
    | within _ _ _ _ hb => exact one _ hb
    | start _ _ hb => exact one _ hb
    | shield hb => exact one _ hb
    | try_ h1 h2 =>
      rename_i rows rows2
      have b1 := body _ h1 (upS s)
      have b2 := body _ h2 (runB (runR n) rows (upS s)).2
      show (runB (runR n) rows2 (runB (runR n) rows (upS s)).2).2.steps ≤ s.steps + (1 + 1 * (costC n rows + (costC n rows2 + 0)))
      omega
    | catch_ hn' h1 h2 =>
      rename_i nm rows rows2
      have b1 := body _ h1 (upS s)
      have b2 := body _ h2 (runB (runR n) rows (upS s)).2
      show (if (runB (runR n) rows (upS s)).1 ≠ [] ∧ ∀ x ∈ (runB (runR n) rows (upS s)).1, x = nm then runB (runR n) rows2 (runB (runR n) rows (upS s)).2 else runB (runR n) rows (upS s)).2.steps ≤ s.steps + (1 + 1 * (costC n rows + (costC n rows2 + 0)))
      split <;> omega
    | if_ hc h1 h2 =>
      rename_i c rows rows2
      have b1 := body _ h1 (upS s)
      have b2 := body _ h2 (upS s)
      show (if wD (upS s).words c ≠ 0 then runB (runR n) rows (upS s) else runB (runR n) rows2 (upS s)).2.steps ≤ s.steps + (1 + 1 * (costC n rows + (costC n rows2 + 0)))
      split <;> omega
    | often i0 i1 h1 =>
      rename_i i rows
      have := loopB_steps (g := runB (runR n) rows) (c := costC n rows) (fun s => body _ h1 s) i.toNat (upS s)
      show (loopB (runB (runR n) rows) i.toNat (upS s)).2.steps ≤ s.steps + (1 + 3 * (costC n rows + 0))
      have h3 : i.toNat * costC n rows ≤ 3 * costC n rows := Nat.mul_le_mul_right _ (by omega)
      omega
theorem runB_steps2 (hW : NoW W) (n : Nat) (rows : List PyData) (h : ∀ x ∈ rows, Do C W cn ln hn n x) (s : Ls) : (runB (runR n) rows s).2.steps ≤ s.steps + costC n rows := runB_steps rows s fun r hr s => run_steps2 hW n r (h r hr) s
end
/-! ### a program made -/
structure Rt64 (cn ls hn : List Str) (rows : List PyData) : Prop where
  w : wrongD cn ls hn 64 rows [] [] 0 = none
  c : cntD 64 rows ≤ 60
  g : Good (.tuple rows) 64
  t : tupAll rows = true
theorem Rt64.of {cn ls hn : List Str} {rows : List PyData} {m : Nat} (h : Rows cn ls hn [] 0 0 rows m) (h60 : m ≤ 60) (l : rows.length ≤ 1000) : Rt64 cn ls hn rows :=
  ⟨h.right 63 [] (by decide) rfl, by rw [h.cnt 63 (by decide)]; exact h60, (h.good1 (by omega)).mono (by decide), h.tup⟩
theorem made64 {K : PySem.W.Frag} {cs : List (Str × Int)} {ls : List Str} {hs : List (Str × Int)} {rows : List PyData} {H : Hp} {v vc vl vw : V} {C CE x dx : Addr} {Q : VK} {E : XK} (S1 : Sz cs (-99) 99) (hlk : locksD ls = true) (hll : ∀ z ∈ ls, isNameL z = true) (lf : ls.length ≤ 4) (S2 : Sz hs 1 4) (R : Rt64 (cs.map (·.1)) ls (hs.map (·.1)) rows)
    (hd : Dp K H v (.tuple rows)) (hC : ArgD H vc cs) (hL : ArgL H vl ls) (hCh : ArgD H vw hs) (nx : H x = none) (ndx : H dx = none) (q : ∀ H', Same H H' → Pf K H H' x C cs ls hs rows (placesD 64 rows []) → Q .non H') : spProg K 64 C CE [.ref x, v, vc, vl, vw] (upd (upd H dx (.own x)) x (.ins C dx [])) Q E := by
  have sc : Same H (upd (upd H dx (.own x)) x (.ins C dx [])) := ((Same.refl H).own ndx).own nx
  have eP : (placesD 64 rows []).length ≤ 60 := by rw [places_len]; exact R.c
  have eF : firstD (cs.map (·.1)) ls (hs.map (·.1)) 64 (.tuple rows) = none := R.w
  have eN : progD 64 cs ls hs (.tuple rows) = none := by
    unfold progD
    rw [S1.sizes, hlk, S2.sizes, eF]
    exact if_pos eP
  refine ⟨x, dx, v, .tuple rows, vc, vl, vw, cs, ls, hs, rfl, upd_same, sc.dp hd, R.g, hC.same sc, S1.okd, hL.same sc, by omega, fun z hz => (Low.of (hll z hz)).ok, hCh.same sc, S2.okd, Evl.sz_of (by show (placesD 64 rows []).length ≤ _; omega), fun H' v1 => ?_⟩
  rw [eN]
  intro O
  exact q H' (Same.V1 nx ndx v1) (Pf.made nx ndx O hd v1 R.t)
section
variable {w : World} {K : PySem.W.Frag} {mg : Str → Option Value}
/-- Program(b, cells=.., locks=..) -/
theorem kb_progC (T : Tp K w mg) : ∃ mv : List Value, KBn K T.fd_prog ["self", "body", "cells", "locks", "channels"] 2 ["cells", "locks"] (fun us ws => us ++ ws ++ mv) (fun vs zs => vs ++ zs ++ [.non]) := by
  obtain ⟨mv, h⟩ := T.D_prog.kbinds0 (ps := ["self", "body", "cells", "locks", "channels"]) 2 ["cells", "locks"] [("channels", .non)] (fun us mv ws => us ++ ws ++ mv) (List.cons_ne_nil _ _) (fun q h => by simp at h; rw [h]; simp) (fun a b c => (a.append c).append b)
    (fun D doc pm an cdv ct us mv ws h1 h2 h3 => match us, ws, mv, h1, h2, h3 with | [_, _], [_, _], [_], _, _, _ => ⟨_, _, _, _, _, _, rfl, rfl, rfl⟩)
  exact ⟨mv, h⟩
end
end TP
namespace TP
open PySem PySem.Spec PyProof.Rows L2 HX HB HG HU HH HD HS HV HQ HK HN HJ TL HM HP HR HO HC HF
/-! ### rows put into others -/
def let9 (k : Nat) : Str := ⟨#[97 + k]⟩
def PsW (z0 : Str) (i : Nat) (ps : List (Str × Str)) : Prop := ∀ p ∈ ps, ∃ k : Nat, i ≤ k ∧ k < 9 ∧ p.1 = z0 ++ let9 k
structure WrI (cn ln : List Str) (z0 : Str) (i : Nat) (rows : List PyData) : Prop where
  do_ : ∀ x ∈ rows, Do Clx [] cn ln [] (i + 1) x
  rws : ∃ m, m ≤ 2 + 2 * i ∧ ∀ ps, PsW z0 i ps → Rows cn ln [] ps (9 - i) 0 rows m
  len : rows.length ≤ 2
  cost : costC (i + 1) rows ≤ 2 + 2 * i
theorem abc9 : ∀ k, k < 9 → (Str.ofString "abcdefghi").cps.toList[k]? = some (97 + k) := by decide +kernel
theorem PsW.up {z0 : Str} {i : Nat} {ps : List (Str × Str)} (h : PsW z0 (i + 1) ps) : PsW z0 i ps := fun p hp => by
  obtain ⟨k, h1, h2, h3⟩ := h p hp
  exact ⟨k, by omega, h2, h3⟩
theorem psW_snoc {z0 w : Str} {i : Nat} {ps : List (Str × Str)} (h : PsW z0 (i + 1) ps) (hi : i < 9) : PsW z0 i (ps ++ [(z0 ++ let9 i, w)]) := fun p hp => by
  rcases List.mem_append.mp hp with hp | hp
  · exact h.up p hp
  · rw [List.mem_singleton.mp hp]
    exact ⟨i, Nat.le_refl _, hi, rfl⟩
theorem let9_inj {z0 : Str} {i k : Nat} (h : z0 ++ let9 i = z0 ++ let9 k) : i = k := by
  have h1 : (z0.cps ++ (let9 i).cps) = (z0.cps ++ (let9 k).cps) := congrArg Str.cps h
  have h2 := Array.append_right_inj (xs := z0.cps) |>.mp h1
  have h3 : (#[97 + i] : Array Nat) = #[97 + k] := h2
  have h4 := congrArg Array.toList h3
  simp at h4
  omega
section
variable {cn ln : List Str} {z0 z1 : Str} {i : Nat} {rows rows2 : List PyData}
theorem one3 {x : PyData} : [x].length ≤ 1000 := by show 1 ≤ 1000; decide
theorem WrI.mk1 (I : WrI cn ln z0 i rows) (hi : i < 9) {row : PyData} (h1 : Do Clx [] cn ln [] (i + 2) row) (h2 : ∃ m, m ≤ 4 + 2 * i ∧ ∀ ps, PsW z0 (i + 1) ps → Row1 cn ln [] ps (8 - i) 0 row m) (h3 : cost2 (i + 2) row ≤ 4 + 2 * i) : WrI cn ln z0 (i + 1) [row] := by
  obtain ⟨m, hm, h2⟩ := h2
  refine ⟨fun x hx => by rw [List.mem_singleton.mp hx]; exact h1, ⟨0 + m, by omega, fun ps hps => ?_⟩, by show 1 ≤ 2; decide, ?_⟩
  · have := Rows.nil.snoc (h2 ps hps)
    rw [show 9 - (i + 1) = 8 - i by omega]
    exact this
  · show cost2 (i + 2) row + 0 ≤ 2 + 2 * (i + 1)
    omega
theorem WrI.tup (I : WrI cn ln z0 i rows) : tupD (.tuple rows) = true := by
  obtain ⟨m, hm, hr⟩ := I.rws
  exact (hr [] (fun p hp => by cases hp)).tup
theorem WrI.shield (I : WrI cn ln z0 i rows) (hi : i < 9) : WrI cn ln z0 (i + 1) [.tuple [.str "shield", .tuple rows]] := by
  obtain ⟨m, hm, hr⟩ := I.rws
  refine I.mk1 hi (.shield I.do_) ⟨1 + m, by omega, fun ps hps => row_shield (by rw [show 8 - i + 1 = 9 - i by omega]; exact hr ps hps.up) (by have := I.len; omega) (by omega) (by decide)⟩ ?_
  have e : cost2 (i + 2) (.tuple [.str "shield", .tuple rows]) = 1 + 1 * (costC (i + 1) rows + 0) := rfl
  have := I.cost
  omega
theorem WrI.nest (I : WrI cn ln z0 i rows) (hi : i < 9) (hn : isNameL (z0 ++ let9 i) = true) : WrI cn ln z0 (i + 1) [.tuple [.str "nest", .str (z0 ++ let9 i), .tuple rows]] := by
  obtain ⟨m, hm, hr⟩ := I.rws
  refine I.mk1 hi (.nest hn I.do_) ⟨1 + m, by omega, fun ps hps => row_nest hn (fun h => ?_) (by rw [show 8 - i + 1 = 9 - i by omega]; exact hr _ (psW_snoc hps hi)) (by have := I.len; omega) (by omega) (by decide)⟩ ?_
  · obtain ⟨p, hp, e⟩ := List.mem_map.mp h
    obtain ⟨k, h1, h2, h3⟩ := hps p hp
    rw [h3] at e
    have := let9_inj e
    omega
  have e : cost2 (i + 2) (.tuple [.str "nest", .str (z0 ++ let9 i), .tuple rows]) = 1 + 1 * (costC (i + 1) rows + 0) := rfl
  have := I.cost
  omega
theorem WrI.try_ (I : WrI cn ln z0 i rows) (hi : i < 9) (h2 : rows2 = [] ∨ ∃ j : Int, j.natAbs ≤ 100 ∧ rows2 = [.tuple [.str "tell", .int j]]) : WrI cn ln z0 (i + 1) [.tuple [.str "try", .tuple rows, .tuple rows2]] := by
  obtain ⟨m, hm, hr⟩ := I.rws
  have hl := I.len
  have hc := I.cost
  have e : cost2 (i + 2) (.tuple [.str "try", .tuple rows, .tuple rows2]) = 1 + 1 * (costC (i + 1) rows + (costC (i + 1) rows2 + 0)) := rfl
  rcases h2 with rfl | ⟨j, hj, rfl⟩
  · have e0 : costC (i + 1) ([] : List PyData) = 0 := rfl
    refine I.mk1 hi (.try_ I.do_ (fun x hx => by cases hx)) ⟨1 + (m + 0), by omega, fun ps hps => row_try (by rw [show 8 - i + 1 = 9 - i by omega]; exact hr ps hps.up) Rows.nil (by omega) (by decide) (by omega) (by decide)⟩ (by omega)
  · have e0 : costC (i + 1) [.tuple [.str "tell", .int j]] = 1 := rfl
    have cj : Clc (.int j) := Clc.int (Nat.le_trans hj (by decide))
    refine I.mk1 hi (.try_ I.do_ (fun x hx => by rw [List.mem_singleton.mp hx]; exact .tell cj.clx)) ⟨1 + (m + (0 + 1)), by omega, fun ps hps => row_try (by rw [show 8 - i + 1 = 9 - i by omega]; exact hr ps hps.up) (Rows.nil.snoc (row_tell cj (by omega) (by decide))) (by omega) one3 (by omega) (by decide)⟩ (by omega)
theorem WrI.catch_ (I : WrI cn ln z0 i rows) (hi : i < 9) (hz : isNameL z1 = true) {j : Int} (hj : j.natAbs ≤ 100) : WrI cn ln z0 (i + 1) [.tuple [.str "catch", .tuple rows, .str z1, .tuple [.tuple [.str "tell", .int j]]]] := by
  obtain ⟨m, hm, hr⟩ := I.rws
  have hl := I.len
  have hc := I.cost
  have e : cost2 (i + 2) (.tuple [.str "catch", .tuple rows, .str z1, .tuple [.tuple [.str "tell", .int j]]]) = 1 + 1 * (costC (i + 1) rows + (1 + 0)) := rfl
  have cj : Clc (.int j) := Clc.int (Nat.le_trans hj (by decide))
  exact I.mk1 hi (.catch_ hz I.do_ (fun x hx => by rw [List.mem_singleton.mp hx]; exact .tell cj.clx)) ⟨1 + (m + (0 + 1)), by omega, fun ps hps => row_catch hz (by rw [show 8 - i + 1 = 9 - i by omega]; exact hr ps hps.up) (Rows.nil.snoc (row_tell cj (by omega) (by decide))) (by omega) one3 (by omega) (by decide)⟩ (by omega)
theorem WrI.if0 (I : WrI cn ln z0 i rows) (hi : i < 9) (hz : isNameL z1 = true) : WrI cn ln z0 (i + 1) [.tuple [.str "if", .int 0, .tuple [.tuple [.str "fail", .str z1]], .tuple rows]] := by
  obtain ⟨m, hm, hr⟩ := I.rws
  have hl := I.len
  have hc := I.cost
  have e : cost2 (i + 2) (.tuple [.str "if", .int 0, .tuple [.tuple [.str "fail", .str z1]], .tuple rows]) = 1 + 1 * (1 + (costC (i + 1) rows + 0)) := rfl
  have cj : Clc (.int 0) := Clc.int (by decide)
  exact I.mk1 hi (.if_ cj.clx (fun x hx => by rw [List.mem_singleton.mp hx]; exact .fail hz) I.do_) ⟨1 + ((0 + 1) + m), by omega, fun ps hps => row_if cj (Rows.nil.snoc (row_fail hz (by omega) (by decide))) (by rw [show 8 - i + 1 = 9 - i by omega]; exact hr ps hps.up) one3 (by omega) (by omega) (by decide)⟩ (by omega)
theorem WrI.if1 (I : WrI cn ln z0 i rows) (hi : i < 9) {j : Int} (hj : j.natAbs ≤ 100) : WrI cn ln z0 (i + 1) [.tuple [.str "if", .int 1, .tuple rows, .tuple []], .tuple [.str "tell", .int j]] := by
  obtain ⟨m, hm, hr⟩ := I.rws
  have hl := I.len
  have hc := I.cost
  have e : cost2 (i + 2) (.tuple [.str "if", .int 1, .tuple rows, .tuple []]) = 1 + 1 * (costC (i + 1) rows + (0 + 0)) := rfl
  have c1 : Clc (.int 1) := Clc.int (by decide)
  have cj : Clc (.int j) := Clc.int (Nat.le_trans hj (by decide))
  refine ⟨fun x hx => ?_, ⟨0 + (1 + (m + 0)) + 1, by omega, fun ps hps => ?_⟩, by show 2 ≤ 2; decide, ?_⟩
  · simp only [List.mem_cons, List.not_mem_nil, or_false] at hx
    rcases hx with e | e
    · rw [e]; exact .if_ c1.clx I.do_ (fun x hx => by cases hx)
    · rw [e]; exact .tell cj.clx
  · rw [show 9 - (i + 1) = 8 - i by omega]
    exact (Rows.nil.snoc (row_if c1 (by rw [show 8 - i + 1 = 9 - i by omega]; exact hr ps hps.up) Rows.nil (by omega) (by decide) (by omega) (by decide))).snoc (row_tell cj (by omega) (by decide))
  · show cost2 (i + 2) _ + (1 + 0) ≤ _
    omega
end
section
variable {P : Program} {w : World} {K : PySem.W.Frag} {mg : Str → Option Value} {base : Heap}
def spWrapped (K : PySem.W.Frag) : Sp := fun vs H Q _ => ∃ (s c l : Addr) (v : V) (z0 z1 : Str) (cn ln : List Str) (rows : List PyData), vs = [.ref s, v, .ref l, .int 9] ∧ Da H s c ∧ l ≠ s ∧ l ≠ c ∧ H l = some (.lst [.str z0, .str z1]) ∧ z0.length ≤ 6 ∧ (∀ k, k < 9 → isNameL (z0 ++ let9 k) = true) ∧ isNameL z1 = true ∧ Dp K H v (.tuple rows) ∧ WrI cn ln z0 0 rows ∧
  ∀ (v' : V) (rows' : List PyData) (H' : Hp), Dp K H' v' (.tuple rows') → WrI cn ln z0 9 rows' → Da H' s c → Ud s c H H' → Q v' H'
theorem ok_wrapped (T : Tp K w mg) : FnOk P w K mg base CX0 3 T.f_wrapped T.fd_wrapped ["_law_s", "_law_rows", "_law_names_here", "_law_deep"] (spWrapped K) := by
  refine T.D_wrapped.F.ok sc_wrapped (fun vs H Q E h => ?_) (fun cdv A outer st H vs Q E hr h => ?_)
  · obtain ⟨s, c, l, v, z0, z1, cn, ln, rows, rfl, _⟩ := h
    rfl
  · obtain ⟨s, c, l, v, z0, z1, cn, ln, rows, rfl, D, ns, nc, hl, hz6, hz0, hz1, hv, hI, q⟩ := h
    have hu := hu_of hr
    refine ⟨_, (pss_cons (ps_for PassesOwn.never rfl (pi_range1 (by rfl) T.range (pa_cons (pv 3) pa_nil)) (pg_name (i := 4) sc_wrapped.nd rfl (.inl rfl))
  (pss_cons (ps_set (i := 5) sc_wrapped.nd rfl (.inl rfl) (pcall T.D_draw (ok_draw T) (hr.mono (by omega)) (by rfl) (pa_cons (pv 0) (pa_cons pe_int pa_nil))))
  (pss_one (ps_if (pt_cmpR op_lt (pv 5) pe_int (nomark _))
  (pss_one (ps_set (i := 1) sc_wrapped.nd rfl (.inl rfl) (pe_ix ix_tup (pe_tup (pa_cons (pe_tup (pa_cons (pe_tup (pa_cons pe_str (pa_cons (pv 1) pa_nil))) pa_nil)) (pa_cons (pe_tup (pa_cons (pe_tup (pa_cons pe_str (pa_cons (pe_op op_add_str (pe_ix ix_list (pv 2) pe_int (fun _ _ => rfl)) (pe_ix ix_str pe_str (pv 4) (fun _ _ => rfl))) (pa_cons (pv 1) pa_nil)))) pa_nil)) pa_nil))) (pv 5) (fun _ _ => rfl))))
  (pss_one (ps_if (pt_cmpR op_eq (pv 5) pe_int (nomark _))
  (pss_one (ps_set (i := 1) sc_wrapped.nd rfl (.inl rfl) (pe_tup (pa_cons (pe_tup (pa_cons pe_str (pa_cons (pv 1) (pa_cons (pe_op HAE.op_repB (pe_tup (pa_cons (pe_tup (pa_cons pe_str (pa_cons (pv 4) pa_nil))) pa_nil)) (pcall T.D_draw (ok_draw T) (hr.mono (by omega)) (by rfl) (pa_cons (pv 0) (pa_cons pe_int pa_nil)))) pa_nil)))) pa_nil))))
  (pss_one (ps_if (pt_cmpR op_eq (pv 5) pe_int (nomark _))
  (pss_one (ps_set (i := 1) sc_wrapped.nd rfl (.inl rfl) (pe_tup (pa_cons (pe_tup (pa_cons pe_str (pa_cons (pv 1) (pa_cons (pe_ix ix_list (pv 2) pe_int (fun _ _ => rfl)) (pa_cons (pe_tup (pa_cons (pe_tup (pa_cons pe_str (pa_cons (pe_op op_add pe_int (pv 4)) pa_nil))) pa_nil)) pa_nil))))) pa_nil))))
  (pss_one (ps_if (pt_cmpR op_eq (pv 5) pe_int (nomark _))
  (pss_one (ps_set (i := 1) sc_wrapped.nd rfl (.inl rfl) (pe_tup (pa_cons (pe_tup (pa_cons pe_str (pa_cons pe_int (pa_cons (pv 1) (pa_cons (pe_tup pa_nil) pa_nil))))) (pa_cons (pe_tup (pa_cons pe_str (pa_cons (pe_op op_add pe_int (pv 4)) pa_nil))) pa_nil)))))
  (pss_one (ps_set (i := 1) sc_wrapped.nd rfl (.inl rfl) (pe_tup (pa_cons (pe_tup (pa_cons pe_str (pa_cons pe_int (pa_cons (pe_tup (pa_cons (pe_tup (pa_cons pe_str (pa_cons (pe_ix ix_list (pv 2) pe_int (fun _ _ => rfl)) pa_nil))) pa_nil)) (pa_cons (pv 1) pa_nil))))) pa_nil))))))))))))))
  (pss_one (ps_ret (pv 1)))), ?_⟩
    refine ⟨_, rfl, _, rfl, by decide, by decide, for_it (n := 9) walk_range (fun i σ H2 => ∃ (v2 : V) (rows2 : List PyData) (y4 y5 : Option V), σ = [some (.ref s), some v2, some (.ref l), some (.int 9), y4, y5] ∧ Da H2 s c ∧ Ud s c H H2 ∧ Dp K H2 v2 (.tuple rows2) ∧ WrI cn ln z0 i rows2) ⟨v, rows, _, _, rfl, D, Ud.refl H, hv, hI⟩ (fun _ _ _ _ _ => trivial) ?_ ?_⟩
    · rintro i x σ H1 H2 hi ⟨v2, rows2, y4, y5, rfl, D2, u2, hv2, I2⟩ ⟨rfl, hx⟩
      have hin : i < 9 := hi
      have ex : x = .int (i : Int) := by rw [hx]; simp
      subst ex
      refine ⟨_, rfl, s, c, _, rfl, D2, by decide, by decide, fun r H3 r0 r6 D3 u3 => ?_⟩
      have hv3 := u3.dp D2 I2.tup hv2
      have hl3 : H3 l = some (.lst [.str z0, .str z1]) := u3 _ _ (u2 _ _ hl ns nc) ns nc
      have u03 : Ud s c H H3 := u2.trans u3
      have fin : ∀ (vv : V) (rows' : List PyData) (H4 : Hp) (y4 y5 : Option V), Da H4 s c → Ud s c H3 H4 → Dp K H4 vv (.tuple rows') → WrI cn ln z0 (i + 1) rows' → ∃ (v2 : V) (rows2 : List PyData) (y4' y5' : Option V), [some (V.ref s), some vv, some (V.ref l), some (V.int 9), y4, y5] = [some (V.ref s), some v2, some (V.ref l), some (V.int 9), y4', y5'] ∧ Da H4 s c ∧ Ud s c H H4 ∧ Dp K H4 v2 (.tuple rows2) ∧ WrI cn ln z0 (i + 1) rows2 := fun vv rows' H4 y4 y5 D4 u4 hd hI' => ⟨vv, rows', y4, y5, rfl, D4, u03.trans u4, hd, hI'⟩
      have mz1 : ∀ {σ : L2.St}, σ[2]? = some (some (V.ref l)) → MkE K σ H3 (tOp (rIxL K) (tVar 2) (tC (V.int 1))) (.str z1) := fun {σ} hσ H5 Q5 s5 q5 => ⟨_, hσ, l, _, 1, _, rfl, rfl, sl (s5 _ _ hl3), rfl, q5 _ H5 (Same.refl H5) (.str _)⟩
      refine ⟨_, rfl, _, _, rfl, rfl, _, rfl, ite2 (fun hlt => ?_) (fun hlt => ?_)⟩
      · have hlt := of_decide_eq_true hlt
        have mnm : ∀ {σ : L2.St}, σ[2]? = some (some (V.ref l)) → σ[4]? = some (some (V.int (i : Int))) → MkE K σ H3 (tOp (fun x y H Q => ∃ i j, x = V.str i ∧ y = V.str j ∧ i.length + j.length ≤ sizeLine ∧ Q (V.str (i ++ j)) H) (tOp (rIxL K) (tVar 2) (tC (V.int 0))) (tOp rIxS (tC (V.str "abcdefghi")) (tVar 4))) (.str (z0 ++ let9 i)) := fun {σ} h2 h4 H5 Q5 s5 q5 => by
          refine ⟨_, h2, l, _, 0, _, rfl, rfl, sl (s5 _ _ hl3), rfl, _, h4, _, _, 97 + i, rfl, rfl, by decide +kernel, ?_, _, _, rfl, rfl, ?_, q5 _ H5 (Same.refl H5) (.str _)⟩
          · exact atI_nat (abc9 i hin)
          · show z0.length + 1 ≤ sizeLine
            exact small1000 (by omega)
        rcases (by omega : r = 0 ∨ r = 1) with rfl | rfl
        · refine asg_ (MkE.run (K := K) (H0 := H3) (d := .tuple [.tuple [.str "shield", .tuple rows2]]) ?_ fun v4 H4 s4 h4 => fin _ _ _ _ _ (D3.same s4) (Ud.of s4) h4 (I2.shield hin))
          exact mk_ixT (k := 0) (mk_tup (mk_cons (mk_tup (mk_cons (mk_tup (mk_cons mk_str (mk_cons (mk_var rfl hv3) mk_nil))) mk_nil)) (mk_cons (mk_tup (mk_cons (mk_tup (mk_cons mk_str (mk_cons (mnm rfl rfl) (mk_cons (mk_var rfl hv3) mk_nil)))) mk_nil)) mk_nil))) (mk_var rfl (.int 0)) rfl
        · refine asg_ (MkE.run (K := K) (H0 := H3) (d := .tuple [.tuple [.str "nest", .str (z0 ++ let9 i), .tuple rows2]]) ?_ fun v4 H4 s4 h4 => fin _ _ _ _ _ (D3.same s4) (Ud.of s4) h4 (I2.nest hin (hz0 i hin)))
          exact mk_ixT (k := 1) (mk_tup (mk_cons (mk_tup (mk_cons (mk_tup (mk_cons mk_str (mk_cons (mk_var rfl hv3) mk_nil))) mk_nil)) (mk_cons (mk_tup (mk_cons (mk_tup (mk_cons mk_str (mk_cons (mnm rfl rfl) (mk_cons (mk_var rfl hv3) mk_nil)))) mk_nil)) mk_nil))) (mk_var rfl (.int 1)) rfl
      · have hge := fun h => hlt (decide_eq_true h)
        refine ifs_ ⟨_, rfl, rfl, _, rfl, ite2 (fun e2 => ?_) (fun n2 => ?_)⟩
        · refine asg_ ?_
          have close : ∀ {w7 : V} {rows7 : List PyData} {H7 : Hp} {R : V → Hp → Prop}, Dp K H7 v2 (.tuple rows2) → Dp K H7 w7 (.tuple rows7) → (∀ v H8, Same H7 H8 → Dp K H8 v (.tuple [.tuple [.str "try", .tuple rows2, .tuple rows7]]) → R v H8) → ([V.str "try", v2, w7].length ≤ sizeLine ∧ ∀ p, H7 p = none → ([V.ref p].length ≤ sizeLine ∧ ∀ p', (upd H7 p (.tup [V.str "try", v2, w7])) p' = none → R (.ref p') (upd (upd H7 p (.tup [V.str "try", v2, w7])) p' (.tup [V.ref p])))) := fun {w7 rows7 H7 R} h2 h7 k => by
            refine ⟨by show 3 ≤ sizeLine; decide, fun p np => ⟨by show 1 ≤ sizeLine; decide, fun p' np' => ?_⟩⟩
            have s1 := same_upd (o := .tup [V.str "try", v2, w7]) np
            have s2 := same_upd (o := .tup [V.ref p]) np'
            exact k _ _ (s1.trans s2) (.tup (stt upd_same) (.cons (.tup (stt (s2 _ _ upd_same)) (.cons (.str _) (.cons ((s1.trans s2).dp h2) (.cons ((s1.trans s2).dp h7) .nil)))) .nil))
          refine ⟨_, rfl, _, rfl, by show 2 ≤ sizeLine; decide, fun p1 np1 => ⟨by show 1 ≤ sizeLine; decide, fun p2 np2 => ?_⟩⟩
          have s1 := same_upd (o := .tup [V.str "tell", V.int (i : Int)]) np1
          have s2 := same_upd (o := .tup [V.ref p1]) np2
          have h5 : Dp K (upd (upd H3 p1 (.tup [V.str "tell", V.int (i : Int)])) p2 (.tup [V.ref p1])) (.ref p1) (.tuple [.str "tell", .int (i : Int)]) := .tup (stt (s2 _ _ upd_same)) (.cons (.str _) (.cons (.int _) .nil))
          have h5s : SqT K (upd (upd H3 p1 (.tup [V.str "tell", V.int (i : Int)])) p2 (.tup [V.ref p1])) p2 [V.ref p1] := stt upd_same
          have s35 := s1.trans s2
          refine gen3 fun H5 e5 => ?_
          rw [← e5] at h5 h5s s35
          refine ⟨_, rfl, s, c, 2, rfl, D3.same s35, by decide, by decide, fun r2 H6 a0 a2 D6 u6 => ?_⟩
          have h6 := u6.dp (D3.same s35) rfl h5
          have h6s := u6.sqt (D3.same s35) h5s
          have v6 := u6.dp (D3.same s35) I2.tup (s35.dp hv3)
          have u36 : Ud s c H3 H6 := (Ud.of s35).trans u6
          refine ⟨p2, r2, _, rfl, rfl, h6s, by simp, a0, by omega, by show 1 ≤ 1000; decide, fun e1 => ?_, fun n1 p7 np7 => ?_⟩
          · exact close v6 (.tup h6s (.cons h6 .nil)) fun v8 H8 s8 h8 => fin _ _ _ _ _ (D6.same s8) (u36.trans (Ud.of s8)) h8 (I2.try_ hin (.inr ⟨i, by omega, rfl⟩))
          · have s7 := same_upd (o := .tup (List.replicate r2.toNat [V.ref p1]).flatten) np7
            have e0 : (List.replicate r2.toNat [V.ref p1]).flatten = [] := by
              have : r2 = 0 := by omega
              rw [this]
              rfl
            have h7 : Dp K (upd H6 p7 (.tup (List.replicate r2.toNat [V.ref p1]).flatten)) (.ref p7) (.tuple []) := .tup (stt (by rw [upd_same, e0])) .nil
            exact close (s7.dp v6) h7 fun v8 H8 s8 h8 => fin _ _ _ _ _ (D6.same (s7.trans s8)) (u36.trans (Ud.of (s7.trans s8))) h8 (I2.try_ hin (.inl rfl))
        refine ifs_ ⟨_, rfl, rfl, _, rfl, ite2 (fun e3 => ?_) (fun n3 => ?_)⟩
        · refine asg_ (MkE.run (K := K) (H0 := H3) (d := .tuple [.tuple [.str "catch", .tuple rows2, .str z1, .tuple [.tuple [.str "tell", .int (10 + (i : Int))]]]]) ?_ fun v4 H4 s4 h4 => fin _ _ _ _ _ (D3.same s4) (Ud.of s4) h4 (I2.catch_ hin hz1 (by omega)))
          exact mk_tup (mk_cons (mk_tup (mk_cons mk_str (mk_cons (mk_var rfl hv3) (mk_cons (mz1 rfl) (mk_cons (mk_tup (mk_cons (mk_tup (mk_cons mk_str (mk_cons (mk_add mk_int (mk_var rfl (.int _))) mk_nil))) mk_nil)) mk_nil))))) mk_nil)
        refine ifs_ ⟨_, rfl, rfl, _, rfl, ite2 (fun e4 => ?_) (fun n4 => ?_)⟩
        · refine asg_ (MkE.run (K := K) (H0 := H3) (d := .tuple [.tuple [.str "if", .int 1, .tuple rows2, .tuple []], .tuple [.str "tell", .int (20 + (i : Int))]]) ?_ fun v4 H4 s4 h4 => fin _ _ _ _ _ (D3.same s4) (Ud.of s4) h4 (I2.if1 hin (by omega)))
          exact mk_tup (mk_cons (mk_tup (mk_cons mk_str (mk_cons mk_int (mk_cons (mk_var rfl hv3) (mk_cons (mk_tup mk_nil) mk_nil))))) (mk_cons (mk_tup (mk_cons mk_str (mk_cons (mk_add mk_int (mk_var rfl (.int _))) mk_nil))) mk_nil))
        refine asg_ (MkE.run (K := K) (H0 := H3) (d := .tuple [.tuple [.str "if", .int 0, .tuple [.tuple [.str "fail", .str z1]], .tuple rows2]]) ?_ fun v4 H4 s4 h4 => fin _ _ _ _ _ (D3.same s4) (Ud.of s4) h4 (I2.if0 hin hz1))
        exact mk_tup (mk_cons (mk_tup (mk_cons mk_str (mk_cons mk_int (mk_cons (mk_tup (mk_cons (mk_tup (mk_cons mk_str (mk_cons (mz1 rfl) mk_nil))) mk_nil)) (mk_cons (mk_var rfl hv3) mk_nil))))) mk_nil)
    · rintro σ H2 ⟨v2, rows2, y4, y5, rfl, D2, u2, hv2, I2⟩
      exact ⟨_, rfl, q _ _ _ hv2 I2 D2 u2⟩
end
end TP
namespace TP
open PySem PySem.Spec PyProof.Rows L2 HX HB HG HU HH HD HS HV HQ HK HN HJ TL HM HP HR HO HC HF
/-! ### families of programs: plain -/
structure Fam (cn ln : List Str) (rows : List PyData) : Prop where
  r : Rt64 cn ln [] rows
  d : ∀ x ∈ rows, Do Clx [] cn ln [] 10 x
  c : costC 10 rows ≤ 194
section
variable {cn ln : List Str} {ps : List (Str × Str)} {deep : Nat} {oft : Int} {rows rows2 : List PyData} {z z0 z1 : Str} {m : Nat} {x : PyData} {i big : Int}
theorem Fam.of (h : Rows cn ln [] [] 0 0 rows m) (h60 : m ≤ 60) (l : rows.length ≤ 1000) (d : ∀ x ∈ rows, Do Clx [] cn ln [] 10 x) (c : costC 10 rows ≤ 194) : Fam cn ln rows := ⟨Rt64.of h h60 l, d, c⟩
theorem costle {k : Nat} (h : costC 10 rows = k) (hk : k ≤ 194) : costC 10 rows ≤ 194 := by omega
theorem rows1 {row : PyData} (h : Row1 cn ln [] ps deep oft row m) : Rows cn ln [] ps deep oft [row] m := by
  have := Rows.nil.snoc h
  rwa [Nat.zero_add] at this
def innR (z : Str) : List PyData := [.tuple [.str "put", .str z, .tuple [.str "sum", .str z, .int 1]], .tuple [.str "tell", .str z], .tuple [.str "rest", .int 9]]
theorem clc_inn (h : isNameL z = true) : Clc (.tuple [.str "sum", .str z, .int 1]) := clc3 (.inl rfl) (Lf.str h) (Lf.int (by decide))
theorem inn_rows (h : isNameL z = true) (hd : deep ≤ 9) (ho : oft ≤ 3) : Rows cn ln [] ps deep oft (innR z) 3 := ((rows1 (row_put h (clc_inn h) hd ho)).snoc (row_tell (Clc.str h) hd ho)).snoc (row_rest (by decide) hd ho)
theorem inn_do (h : isNameL z = true) (n : Nat) : ∀ x ∈ innR z, Do Clx [] cn ln [] (n + 1) x := fun x hx => by
  simp only [innR, List.mem_cons, List.not_mem_nil, or_false] at hx
  rcases hx with e | e | e <;> rw [e]
  · exact .put h (clc_inn h).clx
  · exact .tell (Clc.str h).clx
  · exact .rest (by decide) (by decide)
/-- oftens in oftens in oftens -/
theorem fam1 (h8 : isNameL z = true) (h0 : isNameL z0 = true) (m0 : z0 ∈ cn) (hb : big.natAbs ≤ 10 ^ 41) (hi : 0 ≤ i ∧ i ≤ 9) : Fam cn ln [.tuple [.str "put", .str z, .int big], .tuple [.str "often", .int 3, .tuple [.tuple [.str "often", .int 3, .tuple [.tuple [.str "often", .int 3, .tuple (innR z)]]], .tuple [.str "rest", .int i]]], .tuple [.str "write", .str z0, .str z]] := by
  have cb : Clc (.int big) := Clc.int hb
  have r3 : Rows cn ln [] [] 3 3 (innR z) 3 := inn_rows h8 (by decide) (by decide)
  have r2 : Rows cn ln [] [] 2 2 [.tuple [.str "often", .int 3, .tuple (innR z)]] 4 := rows1 (row_often (deep := 2) (oft := 2) (by decide) r3 (by show 3 ≤ 1000; decide) (by decide) (by decide))
  have r1 : Rows cn ln [] [] 1 1 [.tuple [.str "often", .int 3, .tuple [.tuple [.str "often", .int 3, .tuple (innR z)]]], .tuple [.str "rest", .int i]] 6 := (rows1 (row_often (deep := 1) (oft := 1) (by decide) r2 one3 (by decide) (by decide))).snoc (row_rest hi (by decide) (by decide))
  have r0 : Rows cn ln [] [] 0 0 [.tuple [.str "put", .str z, .int big], .tuple [.str "often", .int 3, .tuple [.tuple [.str "often", .int 3, .tuple [.tuple [.str "often", .int 3, .tuple (innR z)]]], .tuple [.str "rest", .int i]]], .tuple [.str "write", .str z0, .str z]] 9 :=
    ((rows1 (row_put h8 cb (by decide) (by decide))).snoc (row_often (deep := 0) (oft := 0) (by decide) r1 (by show 2 ≤ 1000; decide) (by decide) (by decide))).snoc (row_write h0 m0 (Clc.str h8) (by decide) (by decide))
  refine Fam.of r0 (by decide) (by show 3 ≤ 1000; decide) (fun x hx => ?_) (costle (k := 99) rfl (by decide))
  simp only [List.mem_cons, List.not_mem_nil, or_false] at hx
  rcases hx with e | e | e <;> rw [e]
  · exact .put h8 cb.clx
  · refine .often (by decide) (by decide) fun x hx => ?_
    simp only [List.mem_cons, List.not_mem_nil, or_false] at hx
    rcases hx with e | e <;> rw [e]
    · refine .often (by decide) (by decide) fun x hx => ?_
      rw [List.mem_singleton.mp hx]
      exact .often (by decide) (by decide) (inn_do h8 6)
    · exact .rest hi.1 hi.2
  · exact .write m0 (Clc.str h8).clx
/-- one by one -/
theorem fam2 (h : ∀ x ∈ rows, Row1 cn ln [] [] 0 0 x 1 ∧ Do Clx [] cn ln [] 10 x ∧ cost2 10 x = 1) (hl : rows.length ≤ 60) : Fam cn ln rows := by
  have key : ∀ (ys : List PyData), (∀ x ∈ ys, Row1 cn ln [] [] 0 0 x 1 ∧ Do Clx [] cn ln [] 10 x ∧ cost2 10 x = 1) → ∀ (xs : List PyData), Rows cn ln [] [] 0 0 xs xs.length → Rows cn ln [] [] 0 0 (xs ++ ys) (xs ++ ys).length ∧ costC 10 ys = ys.length := by
    intro ys
    induction ys with
    | nil => intro _ xs hx; rw [List.append_nil]; exact ⟨hx, rfl⟩
    | cons y ys ih =>
      intro hy xs hx
      obtain ⟨h1, h2, h3⟩ := hy y (List.mem_cons_self ..)
      have h4 : Rows cn ln [] [] 0 0 (xs ++ [y]) (xs ++ [y]).length := by
        rw [List.length_append]
        exact hx.snoc h1
      obtain ⟨g1, g2⟩ := ih (fun x hx => hy x (List.mem_cons_of_mem _ hx)) (xs ++ [y]) h4
      rw [List.append_assoc, List.singleton_append] at g1
      refine ⟨g1, ?_⟩
      show cost2 10 y + costC 10 ys = ys.length + 1
      omega
  obtain ⟨g1, g2⟩ := key rows h [] Rows.nil
  rw [List.nil_append] at g1
  exact Fam.of g1 hl (by omega) (fun x hx => (h x hx).2.1) (by omega)
/-- locks within one another -/
structure HldI (cn ln : List Str) (i : Nat) (rows : List PyData) : Prop where
  do_ : ∀ x ∈ rows, Do Clx [] cn ln [] (i + 1) x
  rws : Rows cn ln [] [] (5 - i) 0 rows (5 + i)
  len : rows.length ≤ 5
  cost : ∀ k, costC (k + i + 1) rows = 5 + i
theorem hld0 (h0 : isNameL z0 = true) (m0 : z0 ∈ cn) (h8 : isNameL z = true) (hb : big.natAbs ≤ 10 ^ 41) : HldI cn ln 0 ([.tuple [.str "write", .str z0, .tuple [.str "minus", .int 0, .int big]], .tuple [.str "fail", .str z0]] ++ innR z) := by
  have cb : Clc (.tuple [.str "minus", .int 0, .int big]) := clc3 (.inr (.inl rfl)) (Lf.int (by decide)) (Lf.int hb)
  refine ⟨fun x hx => ?_, ?_, by show 5 ≤ 5; decide, fun k => rfl⟩
  · rcases List.mem_append.mp hx with hx | hx
    · simp only [List.mem_cons, List.not_mem_nil, or_false] at hx
      rcases hx with e | e <;> rw [e]
      · exact .write m0 cb.clx
      · exact .fail h0
    · exact inn_do h8 0 x hx
  · exact ((((rows1 (row_write h0 m0 cb (by decide) (by decide))).snoc (row_fail h0 (by decide) (by decide))).snoc (row_put h8 (clc_inn h8) (by decide) (by decide))).snoc (row_tell (Clc.str h8) (by decide) (by decide))).snoc (row_rest (by decide) (by decide) (by decide))
theorem HldI.up {j : Nat} (I : HldI cn ln j rows) (hj : j < 4) (hz : isNameL z = true) (hm : z ∈ ln) : HldI cn ln (j + 1) [.tuple [.str "hold", .str z, .tuple rows]] := by
  refine ⟨fun x hx => by rw [List.mem_singleton.mp hx]; exact .hold hm I.do_, ?_, by show 1 ≤ 5; decide, fun k => ?_⟩
  · have h1 := row_hold (ps := []) (deep := 4 - j) (oft := 0) hz hm (by rw [show 4 - j + 1 = 5 - j by omega]; exact I.rws) (by have := I.len; omega) (by omega) (by decide)
    have h2 := rows1 h1
    rw [show 5 - (j + 1) = 4 - j by omega, show 5 + (j + 1) = 1 + (5 + j) by omega]
    exact h2
  · have e : costC (k + (j + 1) + 1) [.tuple [.str "hold", .str z, .tuple rows]] = 1 + 1 * (costC (k + j + 1) rows + 0) + 0 := rfl
    have := I.cost k
    omega
theorem do_up {n : Nat} : ∀ {x : PyData}, Do Clx [] cn ln [] n x → Do Clx [] cn ln [] (n + 1) x := by
  induction n with
  | zero => intro x h; cases h
  | succ n ih =>
    intro x h
    cases h with
    | put h1 h2 => exact .put h1 h2
    | read h1 h2 => exact .read h1 h2
    | write h1 h2 => exact .write h1 h2
    | tell h1 => exact .tell h1
    | rest h1 h2 => exact .rest h1 h2
    | fail h1 => exact .fail h1
    | send h1 h2 h3 => exact .send h1 h2 h3
    | take h1 h2 h3 => exact .take h1 h2 h3
    | off h1 h2 => exact .off h1 h2
    | hold h1 hb => exact .hold h1 fun x hx => ih (hb x hx)
    | nest h1 hb => exact .nest h1 fun x hx => ih (hb x hx)
    | within h1 h2 h3 h4 hb => exact .within h1 h2 h3 h4 fun x hx => ih (hb x hx)
    | start h1 h2 hb => exact .start h1 h2 fun x hx => ih (hb x hx)
    | shield hb => exact .shield fun x hx => ih (hb x hx)
    | try_ h1 h2 => exact .try_ (fun x hx => ih (h1 x hx)) fun x hx => ih (h2 x hx)
    | catch_ h0 h1 h2 => exact .catch_ h0 (fun x hx => ih (h1 x hx)) fun x hx => ih (h2 x hx)
    | if_ h0 h1 h2 => exact .if_ h0 (fun x hx => ih (h1 x hx)) fun x hx => ih (h2 x hx)
    | often h0 h1 h2 => exact .often h0 h1 fun x hx => ih (h2 x hx)
theorem do_mono {n k : Nat} (h : Do Clx [] cn ln [] n x) : Do Clx [] cn ln [] (n + k) x := by
  induction k with
  | zero => exact h
  | succ k ih => exact do_up ih
theorem fam3 {z9 : Str} (I : HldI cn ln 4 rows) (h0 : isNameL z0 = true) (m0 : z0 ∈ cn) (h8 : isNameL z = true) (h9 : isNameL z9 = true) : Fam cn ln ([.tuple [.str "try", .tuple rows, .tuple [.tuple [.str "read", .str z9, .str z0], .tuple [.str "tell", .str z9]]]] ++ innR z) := by
  have r1 : Rows cn ln [] [] 1 0 [.tuple [.str "read", .str z9, .str z0], .tuple [.str "tell", .str z9]] 2 := (rows1 (row_read h9 h0 m0 (by decide) (by decide))).snoc (row_tell (Clc.str h9) (by decide) (by decide))
  have r0 := ((((rows1 (row_try (deep := 0) (ps := []) I.rws r1 (by have := I.len; omega) (by show 2 ≤ 1000; decide) (by decide) (by decide))).snoc (row_put h8 (clc_inn h8) (by decide) (by decide))).snoc (row_tell (Clc.str h8) (by decide) (by decide))).snoc (row_rest (i := 9) (by decide) (by decide) (by decide)))
  refine Fam.of r0 (by decide) (by show 4 ≤ 1000; decide) (fun x hx => ?_) ?_
  · rcases List.mem_append.mp hx with hx | hx
    · rw [List.mem_singleton.mp hx]
      refine .try_ (fun y hy => do_mono (n := 5) (k := 4) (I.do_ y hy)) fun y hy => ?_
      simp only [List.mem_cons, List.not_mem_nil, or_false] at hy
      rcases hy with e | e <;> rw [e]
      · exact .read h9 m0
      · exact .tell (Clc.str h9).clx
    · exact inn_do h8 9 x hx
  · have e : costC 10 ([.tuple [.str "try", .tuple rows, .tuple [.tuple [.str "read", .str z9, .str z0], .tuple [.str "tell", .str z9]]]] ++ innR z) = (1 + 1 * (costC 9 rows + (2 + 0))) + 3 := rfl
    have h : costC 9 rows = 9 := I.cost 4
    omega
/-- a deep calc -/
structure Dc (k : Nat) (x : PyData) : Prop where
  cal : isCalcD x = true
  good : Good x k
  tup : tupD x = true
  bd : ∀ ws : List (Str × Int), (wD ws x).natAbs ≤ 1000 + k
theorem dc3 {k : Nat} {a b : PyData} {w : Str} (hk : w = "sum" ∨ w = "minus" ∨ w = "less") (ca : isCalcD a = true) (cb : isCalcD b = true) (ga : Good a k) (gb : Good b k) (ta : tupD a = true) (tb : tupD b = true) (h : ∀ ws : List (Str × Int), ((kdOf w).run (wD ws a) (wD ws b)).natAbs ≤ 1000 + (k + 1)) : Dc (k + 1) (.tuple [.str w, a, b]) := by
  obtain ⟨h1, h2, h3, _⟩ := calc3 hk ca cb ga gb ta tb
  exact ⟨h1, h2, h3, fun ws => h ws⟩
theorem Dc.sum {k : Nat} (h : Dc k x) : Dc (k + 1) (.tuple [.str "sum", x, .int 1]) := dc3 (.inl rfl) h.cal rfl h.good (Good.int 1 _) h.tup rfl fun ws => by
  have := h.bd ws
  show (wD ws x + 1).natAbs ≤ _
  omega
theorem Dc.minus {k : Nat} (h : Dc k x) : Dc (k + 1) (.tuple [.str "minus", x, .int 1]) := dc3 (.inr (.inl rfl)) h.cal rfl h.good (Good.int 1 _) h.tup rfl fun ws => by
  have := h.bd ws
  show (wD ws x - 1).natAbs ≤ _
  omega
theorem Dc.minus2 {k : Nat} (h : Dc k x) : Dc (k + 1) (.tuple [.str "minus", .int 1, x]) := dc3 (.inr (.inl rfl)) rfl h.cal (Good.int 1 _) h.good rfl h.tup fun ws => by
  have := h.bd ws
  show (1 - wD ws x).natAbs ≤ _
  omega
theorem Dc.less {k : Nat} {j : Int} (h : Dc k x) : Dc (k + 1) (.tuple [.str "less", x, .int j]) := dc3 (.inr (.inr rfl)) h.cal rfl h.good (Good.int j _) h.tup rfl fun ws => by
  show (if wD ws x < j then (1 : Int) else 0).natAbs ≤ _
  split
  · show 1 ≤ _
    omega
  · exact Nat.zero_le _
theorem Dc.clx (h : Dc 48 x) : Clx x := ⟨h.cal, Nat.le_trans h.good.dep (by decide), h.tup, fun ws M hM _ => by
  have := h.bd ws
  have : 10 ^ 41 > 2000 := by decide
  omega⟩
theorem fam4 (h : Dc 48 x) (hz : isNameL z = true) (hm : z ∈ cn) : Fam cn ln [.tuple [.str "tell", x], .tuple [.str "write", .str z, x]] := by
  have k1 : kindsOf "tell" = some (["calc"] : List Str) := by decide +kernel
  have k2 : kindsOf "write" = some (["cell", "calc"] : List Str) := by decide +kernel
  have hc : isPartD cn ln [] [] "calc" x = true := h.cal
  have i1 : isRowD cn ln [] [] (.tuple [.str "tell", x]) = true := by
    simp only [isRowD, k1]
    show (true && (isPartD cn ln [] [] "calc" x && true)) = true
    rw [hc]
    rfl
  have i2 : isRowD cn ln [] [] (.tuple [.str "write", .str z, x]) = true := by
    simp only [isRowD, k2]
    show (true && (isPartD cn ln [] [] "cell" (.str z) && (isPartD cn ln [] [] "calc" x && true))) = true
    rw [hc, part_cell hz hm]
    rfl
  refine ⟨⟨?_, (by show 2 ≤ 60; decide), ?_, ?_⟩, fun y hy => ?_, costle (k := 2) rfl (by decide)⟩
  · rw [wrong_succ]
    have f1 : rowF cn ln [] 63 [] [] 0 0 (.tuple [.str "tell", x]) = none := rowF_none' (by decide) i1 (by show (0 : Int) + 0 ≤ 3; decide) fun j b e => by
      have e : ([] : List PyData)[j]? = some b := e
      cases e
    have f2 : rowF cn ln [] 63 [] [] 0 1 (.tuple [.str "write", .str z, x]) = none := rowF_none' (by decide) i2 (by show (0 : Int) + 0 ≤ 3; decide) fun j b e => by
      have e : ([] : List PyData)[j]? = some b := e
      cases e
    simp only [firstSome, f1, f2]
  · refine (Good.tup (n := 49) (fun y hy => ?_) (by show 2 ≤ 10000; decide)).mono (by decide)
    simp only [List.mem_cons, List.not_mem_nil, or_false] at hy
    rcases hy with e | e <;> rw [e]
    · refine Good.tup (n := 48) (fun y hy => ?_) (by show 2 ≤ 10000; decide)
      simp only [List.mem_cons, List.not_mem_nil, or_false] at hy
      rcases hy with e | e <;> rw [e]
      · exact Good.str (str_lit (by decide +kernel)) _
      · exact h.good
    · refine Good.tup (n := 48) (fun y hy => ?_) (by show 3 ≤ 10000; decide)
      simp only [List.mem_cons, List.not_mem_nil, or_false] at hy
      rcases hy with e | e | e <;> rw [e]
      · exact Good.str (str_lit (by decide +kernel)) _
      · exact Good.str (Low.of hz) _
      · exact h.good
  · show ((true && (tupD x && true)) && ((true && (true && (tupD x && true))) && true)) = true
    rw [h.tup]
    rfl
  · simp only [List.mem_cons, List.not_mem_nil, or_false] at hy
    rcases hy with e | e <;> rw [e]
    · exact .tell h.clx
    · exact .write hm h.clx
/-- finals that fail -/
def finR (i : Int) (z1 : Str) (big : Int) (z0 : Str) (j : Nat) : List PyData := [.tuple [.str "tell", .int i], .tuple [.str "rest", .int 1], .tuple [.str "write", .str z1, .int big]] ++ List.replicate j (.tuple [.str "fail", .str z0])
theorem fin_ok {j : Nat} (hj : j ≤ 2) (hi : i.natAbs ≤ 100) (h1 : isNameL z1 = true) (m1 : z1 ∈ cn) (h0 : isNameL z0 = true) (hb : big.natAbs ≤ 10 ^ 41) : (∃ m, m ≤ 5 ∧ Rows cn ln [] [] 3 1 (finR i z1 big z0 j) m) ∧ (finR i z1 big z0 j).length ≤ 5 ∧ (∀ x ∈ finR i z1 big z0 j, Do Clx [] cn ln [] 7 x) ∧ costC 7 (finR i z1 big z0 j) ≤ 5 := by
  have ci : Clc (.int i) := Clc.int (Nat.le_trans hi (by decide))
  have cb : Clc (.int big) := Clc.int hb
  have r3 : Rows cn ln [] [] 3 1 [.tuple [.str "tell", .int i], .tuple [.str "rest", .int 1], .tuple [.str "write", .str z1, .int big]] 3 := ((rows1 (row_tell ci (by decide) (by decide))).snoc (row_rest (by decide) (by decide) (by decide))).snoc (row_write h1 m1 cb (by decide) (by decide))
  have rf : Row1 cn ln [] [] 3 1 (.tuple [.str "fail", .str z0]) 1 := row_fail h0 (by decide) (by decide)
  have d3 : ∀ x ∈ finR i z1 big z0 j, Do Clx [] cn ln [] 7 x := fun x hx => by
    rcases List.mem_append.mp hx with hx | hx
    · simp only [List.mem_cons, List.not_mem_nil, or_false] at hx
      rcases hx with e | e | e <;> rw [e]
      · exact .tell ci.clx
      · exact .rest (by decide) (by decide)
      · exact .write m1 cb.clx
    · rw [(List.mem_replicate.mp hx).2]
      exact .fail h0
  match j, hj, d3 with
  | 0, _, d3 => exact ⟨⟨3, by decide, r3⟩, by show 3 ≤ 5; decide, d3, (by show 3 ≤ 5; decide)⟩
  | 1, _, d3 => exact ⟨⟨4, by decide, r3.snoc rf⟩, by show 4 ≤ 5; decide, d3, (by show 4 ≤ 5; decide)⟩
  | 2, _, d3 => exact ⟨⟨5, by decide, (r3.snoc rf).snoc rf⟩, by show 5 ≤ 5; decide, d3, (by show 5 ≤ 5; decide)⟩
  | j + 3, h, _ => exact absurd h (by omega)
theorem fam5 {j : Nat} {zk : Str} (hj : j ≤ 2) (hi : i.natAbs ≤ 100) (h1 : isNameL z1 = true) (m1 : z1 ∈ cn) (h0 : isNameL z0 = true) (hb : big.natAbs ≤ 10 ^ 40) (hk : isNameL zk = true) : Fam cn ln [.tuple [.str "catch", .tuple [.tuple [.str "often", .int 3, .tuple [.tuple [.str "try", .tuple [.tuple [.str "fail", .str zk]], .tuple (finR i z1 big z0 j)]]]], .str z0, .tuple [.tuple [.str "tell", .int big]]], .tuple [.str "tell", .int (0 - big)]] := by
  have hb41 : big.natAbs ≤ 10 ^ 41 := Nat.le_trans hb (by decide)
  obtain ⟨⟨m, hm, hr⟩, hl, hd, hc⟩ := fin_ok (cn := cn) (ln := ln) hj hi h1 m1 h0 hb41
  generalize finR i z1 big z0 j = F at hr hl hd hc ⊢
  have cb : Clc (.int big) := Clc.int hb41
  have cn' : Clc (.int (0 - big)) := Clc.int (by have : (0 - big).natAbs = big.natAbs := by omega
                                                 rw [this]; exact hb41)
  have rf : Rows cn ln [] [] 3 1 [.tuple [.str "fail", .str zk]] 1 := rows1 (row_fail hk (by decide) (by decide))
  have r2 : Rows cn ln [] [] 2 1 [.tuple [.str "try", .tuple [.tuple [.str "fail", .str zk]], .tuple F]] (1 + (1 + m)) := rows1 (row_try rf hr one3 (by omega) (by decide) (by decide))
  have r1 : Rows cn ln [] [] 1 0 [.tuple [.str "often", .int 3, .tuple [.tuple [.str "try", .tuple [.tuple [.str "fail", .str zk]], .tuple F]]]] (1 + (1 + (1 + m))) := rows1 (row_often (deep := 1) (oft := 0) (by decide) r2 one3 (by decide) (by decide))
  have r0 := (rows1 (row_catch (deep := 0) (ps := []) h0 r1 (rows1 (row_tell cb (by decide) (by decide))) one3 one3 (by decide) (by decide))).snoc (row_tell cn' (by decide) (by decide))
  refine Fam.of r0 (by omega) (by show 2 ≤ 1000; decide) (fun x hx => ?_) ?_
  · simp only [List.mem_cons, List.not_mem_nil, or_false] at hx
    rcases hx with e | e <;> rw [e]
    · refine .catch_ h0 (fun x hx => ?_) fun x hx => by rw [List.mem_singleton.mp hx]; exact .tell cb.clx
      rw [List.mem_singleton.mp hx]
      refine .often (by decide) (by decide) fun x hx => ?_
      rw [List.mem_singleton.mp hx]
      exact .try_ (fun x hx => by rw [List.mem_singleton.mp hx]; exact .fail hk) hd
    · exact .tell cn'.clx
  · have e : costC 10 [.tuple [.str "catch", .tuple [.tuple [.str "often", .int 3, .tuple [.tuple [.str "try", .tuple [.tuple [.str "fail", .str zk]], .tuple F]]]], .str z0, .tuple [.tuple [.str "tell", .int big]]], .tuple [.str "tell", .int (0 - big)]] = (1 + 1 * ((1 + 3 * (((1 + 1 * (1 + (costC 7 F + 0))) + 0) + 0) + 0) + (1 + 0))) + (1 + 0) := rfl
    omega
theorem fam0 (I : WrI cn ln z0 9 rows) : Fam cn ln rows := by
  obtain ⟨m, hm, hr⟩ := I.rws
  exact Fam.of (hr [] (fun p hp => by cases hp)) (by omega) (by have := I.len; omega) I.do_ (by have h : costC 10 rows ≤ 2 + 2 * 9 := I.cost; omega)
end
end TP
namespace TP
open PySem PySem.Spec PyProof.Rows L2 HX HB HG HU HH HD HS HV HQ HK HN HJ TL HM HP HR HO HC HF
/-! ### families of programs -/
/-- pairs of names and numbers, in a list -/
def PrL (K : PySem.W.Frag) (H : Hp) (L : Addr) (ks : List (Str × Int)) : Prop := ∃ ps : List Addr, H L = some (.lst (ps.map V.ref)) ∧ Paired (fun p (kv : Key × V) => SqT K H p [kV kv.1, kv.2]) ps (dI ks)
theorem dI_app (a b : List (Str × Int)) : dI (a ++ b) = dI a ++ dI b := List.map_append ..
theorem PrL.snoc {K : PySem.W.Frag} {H : Hp} {L p : Addr} {ks : List (Str × Int)} {ps : List Addr} {z : Str} {i : Int} (hL : H L = some (.lst (ps.map V.ref))) (h : Paired (fun p (kv : Key × V) => SqT K H p [kV kv.1, kv.2]) ps (dI ks)) (hp : H p = some (.tup [.str z, .int i])) : PrL K (upd H L (.lst ((ps ++ [p]).map V.ref))) L (ks ++ [(z, i)]) := by
  refine ⟨ps ++ [p], upd_same, ?_⟩
  rw [dI_app]
  exact (paired_imp (fun _ _ h => sqt_setl hL h) h).snoc (sqt_setl hL (stt hp))
theorem dI_nodup {ks : List (Str × Int)} (h : (ks.map (·.1)).Nodup) : ((dI ks).map (·.1)).Nodup := by
  have e : (dI ks).map (·.1) = (ks.map (·.1)).map (Sum.inr : Str → Key) := by
    unfold dI
    rw [List.map_map, List.map_map]
    rfl
  rw [e]
  exact List.Pairwise.map _ (fun a b h e => h (Sum.inr.inj e)) h
theorem Da.put {H : Hp} {s c x : Addr} {o : HO} (D : Da H s c) (n : x ≠ s ∧ x ≠ c) : Da (upd H x o) s c := by
  obtain ⟨a, b, gs, h1, h2, r⟩ := D.ex
  exact ⟨a, b, gs, by rw [upd_ne n.1.symm]; exact h1, by rw [upd_ne n.2.symm]; exact h2, r⟩
theorem cut4 {zs : List Str} (h : zs.length = 12) : cutV (zs.map V.str) none (some 4) = (zs.take 4).map V.str := by
  unfold cutV
  rw [HT.sIx_none, show (some (4 : Int)) = some ((4 : Nat) : Int) from rfl, HT.sIx_nat, List.length_map, h, List.drop_zero, List.map_take]
  rfl
theorem cut48 {zs : List Str} (h : zs.length = 12) : cutV (zs.map V.str) (some 4) (some 8) = ((zs.drop 4).take 4).map V.str := by
  unfold cutV
  rw [show (some (4 : Int)) = some ((4 : Nat) : Int) from rfl, show (some (8 : Int)) = some ((8 : Nat) : Int) from rfl, HT.sIx_nat, HT.sIx_nat, List.length_map, h, List.map_take, List.map_drop]
  rfl
theorem nmG {i : Nat} {v : V} {σ : L2.St} {H : Hp} {Q : L2.St → Hp → Prop} {C : V → Prop} (h : C v) (k : ∀ v, C v → Q (σ.set i (some v)) H) : gName i v σ H Q := k v h
theorem pow10 : CPow 10 39 := ⟨by decide, by decide, by decide⟩
theorem dpAll_inv {K : PySem.W.Frag} {H : Hp} : ∀ {vs : List V} {ds : List PyData}, DpAll K H vs ds → ∀ {j : Nat} {v : V}, vs[j]? = some v → ∃ d, ds[j]? = some d ∧ Dp K H v d
  | _, _, .cons h _, 0, _, e => ⟨_, rfl, by cases e; exact h⟩
  | _, _, .cons _ t, j + 1, _, e => dpAll_inv t (by simpa using e)
  | _, _, .nil, j, _, e => by simp at e
theorem mk_rep {K : PySem.W.Frag} {σ : L2.St} {H0 : Hp} {t u : TE} {d : PyData} {j : Int} (h1 : MkE K σ H0 t (.tuple [d])) (h2 : MkE K σ H0 u (.int j)) (j0 : 0 ≤ j) (j1 : j ≤ 1000) : MkE K σ H0 (tOp (HAE.rRepB K) t u) (.tuple (List.replicate j.toNat d)) := fun H Q s q =>
  h1 H _ s fun v H1 s1 hv => h2 H1 _ (s.trans s1) fun w H2 s2 hw => by
    have hv2 := s2.dp hv
    cases hw
    have s12 := s1.trans s2
    cases hv2 with
    | @tup a xs _ h3 h4 =>
      cases h4 with
      | cons h5 h6 =>
        rename_i vv vvs
        cases h6
        refine ⟨a, j, _, rfl, rfl, h3, by simp, j0, j1, by show 1 ≤ 1000; decide, fun e => ?_, fun e p np => ?_⟩
        · subst e
          exact q _ H2 s12 (.tup h3 (.cons h5 .nil))
        · have sp := same_upd (o := .tup (List.replicate j.toNat [vv]).flatten) np
          refine q _ _ (s12.trans sp) (.tup (stt upd_same) ?_)
          have : ∀ k : Nat, DpAll K (upd H2 p (.tup (List.replicate j.toNat [vv]).flatten)) (List.replicate k [vv]).flatten (List.replicate k d) := fun k => by
            induction k with
            | zero => exact .nil
            | succ k ih =>
              rw [List.replicate_succ, List.replicate_succ, List.flatten_cons]
              exact .cons (sp.dp h5) ih
          exact this _
theorem mk_md {K : PySem.W.Frag} {σ : L2.St} {H0 : Hp} {t u : TE} {i j : Int} (h1 : MkE K σ H0 t (.int i)) (h2 : MkE K σ H0 u (.int j)) (hj : 0 < j) : MkE K σ H0 (tOp (rI (fun _ j => 0 < j) fun i j => .int (i % j)) t u) (.int (i % j)) := fun H Q s q =>
  h1 H _ s fun v H1 s1 hv => h2 H1 _ (s.trans s1) fun w H2 s2 hw => by
    cases hv
    cases hw
    exact ⟨i, j, rfl, rfl, hj, q _ H2 (s1.trans s2) (.int _)⟩
theorem cut_nm {a0 : Str} (h : isNameL a0 = true) : (cutS a0 none (some 4)).length ≤ 4 ∧ ∀ k, k < 9 → isNameL (cutS a0 none (some 4) ++ let9 k) = true := by
  have hl := name_len h
  have ep : (cutS a0 none (some 4)).cps.toList = a0.cps.toList.take (min 4 a0.length) := by
    show ((a0.cps.toList.drop (HT.sIx a0.length 0 none)).take (HT.sIx a0.length a0.length (some ((4 : Nat) : Int)) - HT.sIx a0.length 0 none)) = _
    rw [HT.sIx_none, HT.sIx_nat, List.drop_zero, Nat.sub_zero]
  have hln : ∀ z : Str, z.length = z.cps.toList.length := fun z => (Array.length_toList ..).symm
  have l4 : (cutS a0 none (some 4)).length ≤ 4 := by
    rw [hln, ep, List.length_take]
    omega
  have low0 : ∀ x ∈ a0.cps.toList, isLow x = true := by
    unfold isNameL at h
    simp only [Bool.and_eq_true] at h
    exact List.all_eq_true.mp h.2
  refine ⟨l4, fun k hk => ?_⟩
  have e : (cutS a0 none (some 4) ++ let9 k).cps.toList = a0.cps.toList.take (min 4 a0.length) ++ [97 + k] := by
    rw [← ep]
    exact Array.toList_append
  have el : (cutS a0 none (some 4) ++ let9 k).length = (cutS a0 none (some 4)).length + 1 := by
    rw [hln, hln, e, ep, List.length_append, List.length_singleton]
  unfold isNameL
  rw [decide_eq_true (by omega), decide_eq_true (by omega)]
  show (true && true && _) = true
  rw [Bool.and_self, Bool.true_and, List.all_eq_true]
  intro x hx
  rw [e] at hx
  rcases List.mem_append.mp hx with hx | hx
  · exact low0 x (List.mem_of_mem_take hx)
  · rw [List.mem_singleton.mp hx]
    unfold isLow
    rw [decide_eq_true (by omega), decide_eq_true (by omega)]
    rfl
theorem wr0 {cn ln : List Str} {z0 z1 : Str} {big : Int} (hb : big.natAbs ≤ 10 ^ 41) (h1 : isNameL z1 = true) : WrI cn ln z0 0 [.tuple [.str "tell", .int big], .tuple [.str "fail", .str z1]] := by
  have cb : Clc (.int big) := Clc.int hb
  refine ⟨fun x hx => ?_, ⟨2, by decide, fun ps _ => (rows1 (row_tell cb (by decide) (by decide))).snoc (row_fail h1 (by decide) (by decide))⟩, by show 2 ≤ 2; decide, by show 2 ≤ 2; decide⟩
  simp only [List.mem_cons, List.not_mem_nil, or_false] at hx
  rcases hx with e | e <;> rw [e]
  · exact .tell cb.clx
  · exact .fail h1
theorem twelve {zs : List Str} (h : zs.length = 12) : ∃ a0 a1 a2 a3 a4 a5 a6 a7 a8 a9 a10 a11 : Str, zs = [a0, a1, a2, a3, a4, a5, a6, a7, a8, a9, a10, a11] := by
  match zs, h with
  | [a0, a1, a2, a3, a4, a5, a6, a7, a8, a9, a10, a11], _ => exact ⟨_, _, _, _, _, _, _, _, _, _, _, _, rfl⟩
section
variable {P : Program} {w : World} {K : PySem.W.Frag} {mg : Str → Option Value} {base : Heap}
def spFamily (K : PySem.W.Frag) : Sp := fun vs H Q _ => ∃ (s c l : Addr) (way : Nat) (zs : List Str), vs = [.ref s, .int (way : Int), .ref l] ∧ way < 6 ∧ Da H s c ∧ l ≠ s ∧ l ≠ c ∧ H l = some (.lst (zs.map V.str)) ∧ zs.length = 12 ∧ zs.Nodup ∧ (∀ z ∈ zs, isNameL z = true) ∧
  ∀ (t D B : Addr) (v : V) (cs : List (Str × Int)) (rows : List PyData) (H' : Hp), SqT K H' t [v, .ref D, .ref B] → Dp K H' v (.tuple rows) → H' D = some (.dK (dI cs)) → H' B = some (.lst (((zs.drop 4).take 4).map V.str)) → cs.map (·.1) = zs.take 4 → (∀ q ∈ cs, -99 ≤ q.2 ∧ q.2 ≤ 99) → Fam (zs.take 4) ((zs.drop 4).take 4) rows → Da H' s c → Ud s c H H' → Q (.ref t) H'
theorem ok_family (T : Tp K w mg) : FnOk P w K mg base CX0 6 T.f_family T.fd_family ["_law_s", "_law_way", "_law_names_here"] (spFamily K) := by
  refine T.D_family.F.ok sc_family (fun vs H Q E h => ?_) (fun cdv A outer st H vs Q E hr h => ?_)
  · obtain ⟨s, c, l, way, zs, rfl, _⟩ := h
    rfl
  · obtain ⟨s, c, l, way, zs, rfl, hw6, D, ns, nc, hl, hlen, nd, hnm, q⟩ := h
    have hu := hu_of hr
    refine ⟨_, (pss_cons (ps_set (i := 3) sc_family.nd rfl (.inl rfl) (pe_op op_add (pcall T.D_draw (ok_draw T) (hr.mono (by omega)) (by rfl) (pa_cons (pv 0) (pa_cons (pe_op op_pow pe_int pe_int) pa_nil))) (pe_op op_mul pe_int (pe_op op_pow pe_int pe_int))))
  (pss_cons (ps_par (i := 4) (j := 5) rfl sc_family.nd rfl rfl (by decide) rfl rfl (pa_cons (pe_callTy (call_dictP rfl) (by rfl) T.dict (by decide +kernel) (pa_cons (pe_lc (own := [("_law_name", 11)]) (g := gName 11) (by rfl) sc_family.nd (pi_list (pe_slice sl_list (pv 2) po_none (po_some pe_int))) (blkOk_by (own := [("_law_name", 11)]) (N := ["_law_s", "_law_way", "_law_names_here", "_law_big", "_law_store", "_law_bolts", "_law_inner", "_law_often", "_law_rows", "_law_k", "_law_write", "_law_name", "_law_calc", "_law_final", "_law_row"]) (sc := defScope s_family) (by decide +kernel)) (fun _ _ _ _ _ => (pg_name (i := 11) sc_family.nd rfl (.inl rfl))) (fun _ _ _ _ _ => pts_nil) (fun _ _ _ _ _ => (pe_tup (pa_cons (pv 11) (pa_cons (pe_op op_sub (pcall T.D_draw (ok_draw T) (hr.mono (by omega)) (by rfl) (pa_cons (pv 0) (pa_cons pe_int pa_nil))) pe_int) pa_nil))))) pa_nil)) (pa_cons (pe_callTy call_list_of (by rfl) T.list (by decide +kernel) (pa_cons (pe_slice sl_list (pv 2) (po_some pe_int) (po_some pe_int)) pa_nil)) pa_nil)) (by rfl))
  (pss_cons (ps_set (i := 6) sc_family.nd rfl (.inl rfl) (pe_tup (pa_cons (pe_tup (pa_cons pe_str (pa_cons (pe_ix ix_list (pv 2) pe_int (fun _ _ => rfl)) (pa_cons (pe_tup (pa_cons pe_str (pa_cons (pe_ix ix_list (pv 2) pe_int (fun _ _ => rfl)) (pa_cons pe_int pa_nil)))) pa_nil)))) (pa_cons (pe_tup (pa_cons pe_str (pa_cons (pe_ix ix_list (pv 2) pe_int (fun _ _ => rfl)) pa_nil))) (pa_cons (pe_tup (pa_cons pe_str (pa_cons pe_int pa_nil))) pa_nil)))))
  (pss_cons (ps_if (pt_cmpR op_eq (pv 1) pe_int (nomark _))
  (pss_one (ps_ret (pe_tup (pa_cons (pcall T.D_wrapped (ok_wrapped T) (hr.mono (by omega)) (by rfl) (pa_cons (pv 0) (pa_cons (pe_tup (pa_cons (pe_tup (pa_cons pe_str (pa_cons (pv 3) pa_nil))) (pa_cons (pe_tup (pa_cons pe_str (pa_cons (pe_ix ix_list (pv 2) pe_int (fun _ _ => rfl)) pa_nil))) pa_nil))) (pa_cons (pe_lst (pa_cons (pe_slice sl_str (pe_ix ix_list (pv 2) pe_int (fun _ _ => rfl)) po_none (po_some pe_int)) (pa_cons (pe_ix ix_list (pv 2) pe_int (fun _ _ => rfl)) pa_nil))) (pa_cons pe_int pa_nil))))) (pa_cons (pv 4) (pa_cons (pv 5) pa_nil))))))
  pss_nil)
  (pss_cons (ps_if (pt_cmpR op_eq (pv 1) pe_int (nomark _))
  (pss_cons (ps_set (i := 7) sc_family.nd rfl (.inl rfl) (pe_tup (pa_cons pe_str (pa_cons pe_int (pa_cons (pe_tup (pa_cons (pe_tup (pa_cons pe_str (pa_cons pe_int (pa_cons (pv 6) pa_nil)))) pa_nil)) pa_nil)))))
  (pss_cons (ps_set (i := 7) sc_family.nd rfl (.inl rfl) (pe_tup (pa_cons pe_str (pa_cons pe_int (pa_cons (pe_tup (pa_cons (pv 7) (pa_cons (pe_tup (pa_cons pe_str (pa_cons (pcall T.D_draw (ok_draw T) (hr.mono (by omega)) (by rfl) (pa_cons (pv 0) (pa_cons pe_int pa_nil))) pa_nil))) pa_nil))) pa_nil)))))
  (pss_one (ps_ret (pe_tup (pa_cons (pe_tup (pa_cons (pe_tup (pa_cons pe_str (pa_cons (pe_ix ix_list (pv 2) pe_int (fun _ _ => rfl)) (pa_cons (pe_op op_fdiv (pv 3) pe_int) pa_nil)))) (pa_cons (pv 7) (pa_cons (pe_tup (pa_cons pe_str (pa_cons (pe_ix ix_list (pv 2) pe_int (fun _ _ => rfl)) (pa_cons (pe_ix ix_list (pv 2) pe_int (fun _ _ => rfl)) pa_nil)))) pa_nil)))) (pa_cons (pv 4) (pa_cons (pv 5) pa_nil))))))))
  pss_nil)
  (pss_cons (ps_if (pt_cmpR op_eq (pv 1) pe_int (nomark _))
  (pss_cons (ps_set (i := 8) sc_family.nd rfl (.inl rfl) (pe_lst pa_nil))
  (pss_cons (ps_for PassesOwn.never rfl (pi_range1 (by rfl) T.range (pa_cons pe_int pa_nil)) (pg_name (i := 9) sc_family.nd rfl (.inl rfl))
  (pss_cons (ps_set (i := 10) sc_family.nd rfl (.inl rfl) (pe_tup (pa_cons pe_str (pa_cons (pcall T.D_pick (ok_pick T) (hr.mono (by omega)) (by rfl) (pa_cons (pv 0) (pa_cons (pe_slice sl_list (pv 2) po_none (po_some pe_int)) pa_nil))) (pa_cons (pe_op op_sub (pv 3) (pv 9)) pa_nil)))))
  (pss_one (ps_expr (pe_bm PySem.F.plainAttrs_list PySem.F.slot_list_append PySem.F.type_list_append mt_append (pv 8) (pa_cons (pcall T.D_pick (ok_pick T) (hr.mono (by omega)) (by rfl) (pa_cons (pv 0) (pa_cons (pe_lst (pa_cons (pe_tup (pa_cons pe_str (pa_cons (pv 9) pa_nil))) (pa_cons (pe_tup (pa_cons pe_str (pa_cons pe_int pa_nil))) (pa_cons (pv 10) pa_nil)))) pa_nil))) pa_nil))))))
  (pss_one (ps_ret (pe_tup (pa_cons (pe_callTy call_tuple_of (by rfl) T.tuple (by decide +kernel) (pa_cons (pv 8) pa_nil)) (pa_cons (pv 4) (pa_cons (pv 5) pa_nil))))))))
  pss_nil)
  (pss_cons (ps_if (pt_cmpR op_eq (pv 1) pe_int (nomark _))
  (pss_cons (ps_set (i := 8) sc_family.nd rfl (.inl rfl) (pe_op HT2.op_catA (pe_tup (pa_cons (pe_tup (pa_cons pe_str (pa_cons (pe_ix ix_list (pv 2) pe_int (fun _ _ => rfl)) (pa_cons (pe_tup (pa_cons pe_str (pa_cons pe_int (pa_cons (pv 3) pa_nil)))) pa_nil)))) (pa_cons (pe_tup (pa_cons pe_str (pa_cons (pe_ix ix_list (pv 2) pe_int (fun _ _ => rfl)) pa_nil))) pa_nil))) (pv 6)))
  (pss_cons (ps_for PassesOwn.never rfl (pi_list (pv 5)) (pg_name (i := 11) sc_family.nd rfl (.inl rfl))
  (pss_one (ps_set (i := 8) sc_family.nd rfl (.inl rfl) (pe_tup (pa_cons (pe_tup (pa_cons pe_str (pa_cons (pv 11) (pa_cons (pv 8) pa_nil)))) pa_nil)))))
  (pss_one (ps_ret (pe_tup (pa_cons (pe_op HT2.op_catA (pe_tup (pa_cons (pe_tup (pa_cons pe_str (pa_cons (pv 8) (pa_cons (pe_tup (pa_cons (pe_tup (pa_cons pe_str (pa_cons (pe_ix ix_list (pv 2) pe_int (fun _ _ => rfl)) (pa_cons (pe_ix ix_list (pv 2) pe_int (fun _ _ => rfl)) pa_nil)))) (pa_cons (pe_tup (pa_cons pe_str (pa_cons (pe_ix ix_list (pv 2) pe_int (fun _ _ => rfl)) pa_nil))) pa_nil))) pa_nil)))) pa_nil)) (pv 6)) (pa_cons (pv 4) (pa_cons (pv 5) pa_nil))))))))
  pss_nil)
  (pss_cons (ps_if (pt_cmpR op_eq (pv 1) pe_int (nomark _))
  (pss_cons (ps_set (i := 12) sc_family.nd rfl (.inl rfl) (pcall T.D_draw (ok_draw T) (hr.mono (by omega)) (by rfl) (pa_cons (pv 0) (pa_cons pe_int pa_nil))))
  (pss_cons (ps_for PassesOwn.never rfl (pi_range1 (by rfl) T.range (pa_cons pe_int pa_nil)) (pg_name (i := 9) sc_family.nd rfl (.inl rfl))
  (pss_one (ps_set (i := 12) sc_family.nd rfl (.inl rfl) (pe_ix ix_list (pe_lst (pa_cons (pe_tup (pa_cons pe_str (pa_cons (pv 12) (pa_cons pe_int pa_nil)))) (pa_cons (pe_tup (pa_cons pe_str (pa_cons (pv 12) (pa_cons pe_int pa_nil)))) (pa_cons (pe_tup (pa_cons pe_str (pa_cons (pv 12) (pa_cons (pv 9) pa_nil)))) (pa_cons (pe_tup (pa_cons pe_str (pa_cons pe_int (pa_cons (pv 12) pa_nil)))) pa_nil))))) (pcall T.D_draw (ok_draw T) (hr.mono (by omega)) (by rfl) (pa_cons (pv 0) (pa_cons pe_int pa_nil))) (fun _ _ => rfl)))))
  (pss_one (ps_ret (pe_tup (pa_cons (pe_tup (pa_cons (pe_tup (pa_cons pe_str (pa_cons (pv 12) pa_nil))) (pa_cons (pe_tup (pa_cons pe_str (pa_cons (pe_ix ix_list (pv 2) pe_int (fun _ _ => rfl)) (pa_cons (pv 12) pa_nil)))) pa_nil))) (pa_cons (pv 4) (pa_cons (pv 5) pa_nil))))))))
  pss_nil)
  (pss_cons (ps_set (i := 9) sc_family.nd rfl (.inl rfl) (pcall T.D_draw (ok_draw T) (hr.mono (by omega)) (by rfl) (pa_cons (pv 0) (pa_cons pe_int pa_nil))))
  (pss_cons (ps_set (i := 13) sc_family.nd rfl (.inl rfl) (pe_op HT2.op_catA (pe_tup (pa_cons (pe_tup (pa_cons pe_str (pa_cons (pv 9) pa_nil))) (pa_cons (pe_tup (pa_cons pe_str (pa_cons pe_int pa_nil))) (pa_cons (pe_tup (pa_cons pe_str (pa_cons (pe_ix ix_list (pv 2) pe_int (fun _ _ => rfl)) (pa_cons (pv 3) pa_nil)))) pa_nil)))) (pe_op HAE.op_repB (pe_tup (pa_cons (pe_tup (pa_cons pe_str (pa_cons (pe_ix ix_list (pv 2) pe_int (fun _ _ => rfl)) pa_nil))) pa_nil)) (pe_op op_mod (pv 9) pe_int))))
  (pss_cons (ps_set (i := 14) sc_family.nd rfl (.inl rfl) (pe_tup (pa_cons pe_str (pa_cons (pe_tup (pa_cons (pe_tup (pa_cons pe_str (pa_cons pe_int (pa_cons (pe_tup (pa_cons (pe_tup (pa_cons pe_str (pa_cons (pe_tup (pa_cons (pe_tup (pa_cons pe_str (pa_cons (pe_ix ix_list (pv 2) (pe_op op_mod (pv 9) pe_int) (fun _ _ => rfl)) pa_nil))) pa_nil)) (pa_cons (pv 13) pa_nil)))) pa_nil)) pa_nil)))) pa_nil)) (pa_cons (pe_ix ix_list (pv 2) pe_int (fun _ _ => rfl)) (pa_cons (pe_tup (pa_cons (pe_tup (pa_cons pe_str (pa_cons (pv 3) pa_nil))) pa_nil)) pa_nil))))))
  (pss_one (ps_ret (pe_tup (pa_cons (pe_tup (pa_cons (pv 14) (pa_cons (pe_tup (pa_cons pe_str (pa_cons (pe_op op_sub pe_int (pv 3)) pa_nil))) pa_nil))) (pa_cons (pv 4) (pa_cons (pv 5) pa_nil))))))))))))))))), ?_⟩
    refine ⟨_, rfl, _, _, rfl, rfl, pow10, s, c, _, rfl, D, by decide, by decide +kernel, fun r H1 r0 r1 D1 u1 => ⟨_, _, rfl, rfl, pow10, _, _, rfl, rfl, .inl ⟨by decide, by decide⟩, _, _, rfl, rfl, ?_⟩⟩
    have hb0 : 0 ≤ r + 9 * 10 ^ (Int.toNat 39) ∧ r + 9 * 10 ^ (Int.toNat 39) ≤ 10 ^ 40 := by
      have e : (10 : Int) ^ (Int.toNat 39) = 10 ^ 39 := rfl
      rw [e] at r1 ⊢
      have e2 : (10 : Int) ^ 40 = 10 * 10 ^ 39 := by decide +kernel
      have e3 : (0 : Int) ≤ 10 ^ 39 := by decide +kernel
      omega
    refine nmG (C := fun v => ∃ big : Int, v = .int big ∧ 0 ≤ big ∧ big ≤ 10 ^ 40) ⟨_, rfl, hb0⟩ fun vb hvb => ?_
    obtain ⟨big, rfl, hb⟩ := hvb
    have l1 : H1 l = some (.lst (zs.map V.str)) := u1 _ _ hl ns nc
    refine ⟨_, rfl, ?_⟩
    refine ⟨4, rfl, l, _, rfl, sl l1, fun p4 np4 => ?_⟩
    rw [cut4 hlen]
    have s2 := same_upd (o := .lst ((zs.take 4).map V.str)) np4
    have hp4 : (upd H1 p4 (.lst ((zs.take 4).map V.str))) p4 = some (.lst ((zs.take 4).map V.str)) := upd_same
    have ap4 := D1.apart np4
    have D2 := D1.same s2
    have u2 : Ud s c H (upd H1 p4 (.lst ((zs.take 4).map V.str))) := u1.trans (Ud.of s2)
    generalize upd H1 p4 (.lst ((zs.take 4).map V.str)) = H2 at s2 hp4 D2 u2 ⊢
    have l2 := s2 _ _ l1
    have len4 : (zs.take 4).length = 4 := by rw [List.length_take, hlen]; rfl
    refine ⟨p4, rfl, ⟨_, sl hp4⟩, fun L1 nL1 => ?_⟩
    have aL1 := D2.apart nL1
    refine lc_it (walk_list (xs := (zs.take 4).map V.str)) (fun i H6 => ∃ ks : List (Str × Int), Da H6 s c ∧ Ud s c H2 H6 ∧ PrL K H6 L1 ks ∧ ks.map (·.1) = (zs.take 4).take i ∧ ∀ p ∈ ks, -99 ≤ p.2 ∧ p.2 ≤ 99) ⟨[], D2.same (same_upd nL1), Ud.of (same_upd nL1), ⟨[], upd_same, .nil⟩, rfl, fun _ h => by cases h⟩ (fun i H6 _ g => by obtain ⟨_, _, u, _⟩ := g; exact sl (u _ _ hp4 ap4.1 ap4.2)) ?_ ?_
    · rintro i x H5 H6 hi ⟨ks, D6, u6, ⟨ps, hL, hp⟩, hks, hrg⟩ ⟨rfl, g1⟩
      rw [List.length_map] at hi
      rw [List.getElem?_map, List.getElem?_eq_getElem hi] at g1
      cases g1
      refine ⟨rfl, _, rfl, _, rfl, s, c, _, rfl, D6, by decide, by decide, fun nb H8 n0 n1 D8 u8 => ⟨_, _, rfl, rfl, by show 2 ≤ sizeLine; decide, fun p np => ?_⟩⟩
      have t9 := same_upd (o := .tup [.str (zs.take 4)[i], .int (nb - 99)]) np
      have hp9 : (upd H8 p (.tup [.str (zs.take 4)[i], .int (nb - 99)])) p = some (.tup [.str (zs.take 4)[i], .int (nb - 99)]) := upd_same
      generalize upd H8 p (.tup [.str (zs.take 4)[i], .int (nb - 99)]) = H9 at t9 hp9 ⊢
      have u69 : Ud s c H6 H9 := u8.trans (Ud.of t9)
      have hL9 := u69 _ _ hL aL1.1 aL1.2
      have lps : ps.length ≤ 4 := by
        have h1 := hp.length
        have h2 : ks.length = ((zs.take 4).take i).length := by rw [← hks, List.length_map]
        rw [List.length_take] at h2
        unfold dI at h1
        rw [List.length_map] at h1
        omega
      have hp' : Paired (fun p (kv : Key × V) => SqT K H9 p [kV kv.1, kv.2]) ps (dI ks) := paired_imp (fun _ _ h => u69.sqt D6 h) hp
      refine ⟨_, hL9, by rw [List.length_map]; exact small1000 (by omega), ks ++ [((zs.take 4)[i], nb - 99)], (D8.same t9).put aL1, (u6.trans u69).own nL1, ?_, ?_, ?_⟩
      · have := PrL.snoc hL9 hp' hp9
        rw [List.map_append] at this
        exact this
      · rw [List.map_append, hks]
        conv => rhs; rw [List.take_add_one, List.getElem?_eq_getElem hi]
        rfl
      · intro q hq
        rcases List.mem_append.mp hq with hq | hq
        · exact hrg q hq
        · rw [List.mem_singleton.mp hq]
          exact ⟨by omega, by omega⟩
    rintro H3 ⟨ks, D3, u3, ⟨ps, hL, hp⟩, hks, hrg⟩
    rw [List.length_map, List.take_length] at hks
    have ndk : (ks.map (·.1)).Nodup := by rw [hks]; exact nd.sublist (List.take_sublist ..)
    refine ⟨L1, ps, dI ks, rfl, sl hL, hp, fun S nS => ?_⟩
    rw [merge_new (dI ks) [] (by rw [List.nil_append]; exact dI_nodup ndk), List.nil_append]
    have r1 := same_upd (o := .dK (dI ks)) nS
    have hS : (upd H3 S (.dK (dI ks))) S = some (.dK (dI ks)) := upd_same
    have aS := D3.apart nS
    have D4 := D3.same r1
    have u4 := (u2.trans u3).trans (Ud.of r1)
    have l4 := r1 _ _ (u3 _ _ l2 ns nc)
    generalize upd H3 S (.dK (dI ks)) = H4 at r1 hS D4 u4 l4 ⊢
    have aB1 : ∀ {x : Addr}, x = l → x ≠ s ∧ x ≠ c := fun e => by rw [e]; exact ⟨ns, nc⟩
    refine ⟨_, rfl, 4, rfl, 8, rfl, l, _, rfl, sl l4, fun p48 np48 => ?_⟩
    rw [cut48 hlen]
    have s5 := same_upd (o := .lst (((zs.drop 4).take 4).map V.str)) np48
    have hp48 : (upd H4 p48 (.lst (((zs.drop 4).take 4).map V.str))) p48 = some (.lst (((zs.drop 4).take 4).map V.str)) := upd_same
    refine ⟨p48, _, rfl, .inl (sl hp48), fun B nB => ?_⟩
    have s6 := same_upd (o := .lst (((zs.drop 4).take 4).map V.str)) nB
    have s46 := s5.trans s6
    have hB : (upd (upd H4 p48 (.lst (((zs.drop 4).take 4).map V.str))) B (.lst (((zs.drop 4).take 4).map V.str))) B = some (.lst (((zs.drop 4).take 4).map V.str)) := upd_same
    have aB := (D4.same s5).apart nB
    have D6 := D4.same s46
    have u6 := u4.trans (Ud.of s46)
    have l6 := s46 _ _ l4
    have hS6 := s46 _ _ hS
    refine ⟨_, _, rfl, ?_⟩
    refine gen3 fun H6 e6 => ?_
    rw [← e6] at hB D6 u6 l6 hS6
    clear e6 s46 s6 hp48 s5 hS l4 D4 u4 r1 hp hL u3 D3 l2 D2 u2 hp4 l1
    obtain ⟨a0, a1, a2, a3, a4, a5, a6, a7, a8, a9, a10, a11, rfl⟩ := twelve hlen
    have n0 := hnm a0 (by simp)
    have n1 := hnm a1 (by simp)
    have n3 := hnm a3 (by simp)
    have n8 := hnm a8 (by simp)
    have n9 := hnm a9 (by simp)
    have hks : ks.map (·.1) = [a0, a1, a2, a3] := hks
    have hB : H6 B = some (.lst (([a4, a5, a6, a7] : List Str).map V.str)) := hB
    have q : ∀ (t D B : Addr) (v : V) (cs : List (Str × Int)) (rows : List PyData) (H' : Hp), SqT K H' t [v, .ref D, .ref B] → Dp K H' v (.tuple rows) → H' D = some (.dK (dI cs)) → H' B = some (.lst (([a4, a5, a6, a7] : List Str).map V.str)) → cs.map (·.1) = [a0, a1, a2, a3] → (∀ q ∈ cs, -99 ≤ q.2 ∧ q.2 ≤ 99) → Fam [a0, a1, a2, a3] [a4, a5, a6, a7] rows → Da H' s c → Ud s c H H' → Q (.ref t) H' := q
    have hbig : big.natAbs ≤ 10 ^ 40 := by have := hb; omega
    have hbig1 : big.natAbs ≤ 10 ^ 41 := Nat.le_trans hbig (by decide)
    have close : ∀ {te : TE} {σ : L2.St} {H8 : Hp} {Dd : Ends}, Dd.rt = Q → σ[4]? = some (some (.ref S)) → σ[5]? = some (some (.ref B)) → Ud s c H6 H8 → (∀ R : VK, (∀ (v : V) (rows : List PyData) (H9 : Hp), Da H9 s c → Ud s c H8 H9 → Dp K H9 v (.tuple rows) → Fam [a0, a1, a2, a3] [a4, a5, a6, a7] rows → R v H9) → te σ H8 R) → tRet (tTup (tCons te (tCons (tVar 4) (tCons (tVar 5) tNil)))) Dd σ H8 := fun {te σ H8 Dd} hQ g4 g5 u8 hte => by
      refine ret_ (hte _ fun v rows H9 D9 u9 hv hf => ⟨_, g4, _, g5, by show 3 ≤ sizeLine; decide, fun t nt => ?_⟩)
      rw [hQ]
      have s10 := same_upd (o := .tup [v, V.ref S, V.ref B]) nt
      have u69 := u8.trans u9
      exact q t S B v ks rows _ (stt upd_same) (s10.dp hv) (s10 _ _ (u69 _ _ hS6 aS.1 aS.2)) (s10 _ _ (u69 _ _ hB aB.1 aB.2)) hks hrg hf (D9.same s10) ((u6.trans u69).trans (Ud.of s10))
    have closeM : ∀ {te : TE} {σ : L2.St} {H8 : Hp} {Dd : Ends} (rows : List PyData), Dd.rt = Q → σ[4]? = some (some (.ref S)) → σ[5]? = some (some (.ref B)) → Da H8 s c → Ud s c H6 H8 → MkE K σ H8 te (.tuple rows) → Fam [a0, a1, a2, a3] [a4, a5, a6, a7] rows → tRet (tTup (tCons te (tCons (tVar 4) (tCons (tVar 5) tNil)))) Dd σ H8 := fun rows hQ g4 g5 D8 u8 hm hf => close hQ g4 g5 u8 fun R k => hm _ R (Same.refl _) fun v H9 s9 hv => k v rows H9 (D8.same s9) (Ud.of s9) hv hf
    have ixN : ∀ {σ : L2.St} {H8 : Hp} {j : Nat} {z : Str}, σ[2]? = some (some (.ref l)) → H8 l = some (.lst (([a0, a1, a2, a3, a4, a5, a6, a7, a8, a9, a10, a11] : List Str).map V.str)) → ([a0, a1, a2, a3, a4, a5, a6, a7, a8, a9, a10, a11] : List Str)[j]? = some z → MkE K σ H8 (tOp (rIxL K) (tVar 2) (tC (V.int (j : Int)))) (.str z) := fun {σ H8 j z} h2 hl8 hz H9 R s9 k => ⟨_, h2, l, _, _, .str z, rfl, rfl, sl (s9 _ _ hl8), atI_nat (by rw [List.getElem?_map, hz]; rfl), k _ H9 (Same.refl _) (.str _)⟩
    -- the inner rows
    refine nx_ (seq_ (asg_ (MkE.run (K := K) (d := .tuple (innR a8)) ?_ fun vi H7 s7 hvi => ?_)))
    · refine mk_tup (ds := innR a8) ?_ (by show 3 ≤ 1000; decide)
      exact (mk_cons (mk_tup (mk_cons mk_str (mk_cons (ixN (j := 8) rfl l6 rfl) (mk_cons (mk_tup (mk_cons mk_str (mk_cons (ixN (j := 8) rfl l6 rfl) (mk_cons mk_int mk_nil)))) mk_nil)))) (mk_cons (mk_tup (mk_cons mk_str (mk_cons (ixN (j := 8) rfl l6 rfl) mk_nil))) (mk_cons (mk_tup (mk_cons mk_str (mk_cons mk_int mk_nil))) mk_nil)))
    have l7 := s7 _ _ l6
    have D7 := D6.same s7
    have u7 : Ud s c H6 H7 := Ud.of s7
    refine nm1 (nx_ ?_)
    refine seq_ (ifs_ ⟨_, rfl, rfl, _, rfl, ite2 (fun e0 => ?_) (fun m0 => nx_ ?_)⟩)
    · refine close rfl rfl rfl u7 fun R k => call_ (cons_ ⟨_, rfl, cons_ (MkE.run (K := K) (d := .tuple [.tuple [.str "tell", .int big], .tuple [.str "fail", .str a1]]) ?_ fun v0 H8 s8 hv0 => ?_)⟩)
      · exact mk_tup (mk_cons (mk_tup (mk_cons mk_str (mk_cons (mk_var rfl (.int _)) mk_nil))) (mk_cons (mk_tup (mk_cons mk_str (mk_cons (ixN (j := 1) rfl l7 rfl) mk_nil))) mk_nil))
      have l8 := s8 _ _ l7
      refine ⟨_, rfl, l, _, 0, .str a0, rfl, rfl, sl l8, rfl, 4, rfl, a0, rfl, Nat.le_of_lt (small1000 (by have := (name_len n0).2; omega)), _, rfl, l, _, 1, .str a1, rfl, rfl, sl l8, rfl, by show 2 ≤ sizeLine; decide, fun pl npl => ?_⟩
      have s9 := same_upd (o := .lst [.str (cutS a0 none (some 4)), .str a1]) npl
      have D8 := D7.same s8
      have apl := D8.apart npl
      have s79 := s8.trans s9
      obtain ⟨c1, c2⟩ := cut_nm n0
      exact ⟨s, c, pl, v0, _, a1, [a0, a1, a2, a3], [a4, a5, a6, a7], _, rfl, D8.same s9, apl.1, apl.2, upd_same, by omega, c2, n1, s9.dp hv0, wr0 hbig1 n1, fun v' rows' H' hv' I' D' u' => k v' rows' H' D' ((Ud.of s79).trans u') hv' (fam0 I')⟩
    refine seq_ (ifs_ ⟨_, rfl, rfl, _, rfl, ite2 (fun e1 => ?_) (fun m1 => nx_ ?_)⟩)
    · refine seq_ (asg_ (MkE.run (K := K) (d := .tuple [.str "often", .int 3, .tuple [.tuple [.str "often", .int 3, .tuple (innR a8)]]]) ?_ fun v7 H8 s8 h7 => nm1 (nx_ (seq_ (asg_ ?_)))))
      · exact mk_tup (mk_cons mk_str (mk_cons mk_int (mk_cons (mk_tup (mk_cons (mk_tup (mk_cons mk_str (mk_cons mk_int (mk_cons (mk_var rfl hvi) mk_nil)))) mk_nil)) mk_nil)))
      refine ⟨_, rfl, _, rfl, s, c, _, rfl, D7.same s8, by decide, by decide, fun r H9 r0 r9 D9 u9 => ⟨by show 2 ≤ sizeLine; decide, fun p1 np1 => ⟨by show 2 ≤ sizeLine; decide, fun p2 np2 => ⟨by show 3 ≤ sizeLine; decide, fun p3 np3 => ?_⟩⟩⟩⟩
      have t1 := same_upd (o := .tup [V.str "rest", V.int r]) np1
      have t2 := same_upd (o := .tup [v7, V.ref p1]) np2
      have t3 := same_upd (o := .tup [V.str "often", V.int 3, V.ref p2]) np3
      have t13 := (t1.trans t2).trans t3
      have h7' := u9.dp (D7.same s8) rfl h7
      have h10 : Dp K (upd (upd (upd H9 p1 (.tup [V.str "rest", V.int r])) p2 (.tup [v7, V.ref p1])) p3 (.tup [V.str "often", V.int 3, V.ref p2])) (.ref p3) (.tuple [.str "often", .int 3, .tuple [.tuple [.str "often", .int 3, .tuple [.tuple [.str "often", .int 3, .tuple (innR a8)]]], .tuple [.str "rest", .int r]]]) :=
        .tup (stt upd_same) (.cons (.str _) (.cons (.int _) (.cons (.tup (stt (t3 _ _ upd_same)) (.cons (t13.dp h7') (.cons (.tup (stt ((t2.trans t3) _ _ upd_same)) (.cons (.str _) (.cons (.int _) .nil))) .nil))) .nil)))
      refine gen3 fun H10 e10 => ?_
      rw [← e10] at h10 t13
      have D10 := D9.same t13
      have u10 : Ud s c H6 H10 := ((u7.trans (Ud.of s8)).trans u9).trans (Ud.of t13)
      have l10 := u10 _ _ l6 ns nc
      refine nm1 (nx_ (closeM [.tuple [.str "put", .str a8, .int (big / 10)], .tuple [.str "often", .int 3, .tuple [.tuple [.str "often", .int 3, .tuple [.tuple [.str "often", .int 3, .tuple (innR a8)]]], .tuple [.str "rest", .int r]]], .tuple [.str "write", .str a0, .str a8]] rfl rfl rfl D10 u10 ?_ (fam1 n8 n0 (by simp) (by omega) ⟨r0, by omega⟩)))
      refine mk_tup (mk_cons (mk_tup (mk_cons mk_str (mk_cons (ixN (j := 8) rfl l10 rfl) (mk_cons ?_ mk_nil)))) (mk_cons (mk_var rfl h10) (mk_cons (mk_tup (mk_cons mk_str (mk_cons (ixN (j := 0) rfl l10 rfl) (mk_cons (ixN (j := 8) rfl l10 rfl) mk_nil)))) mk_nil)))
      exact fun H11 R s11 k => ⟨_, rfl, _, _, rfl, rfl, ⟨by decide, by decide⟩, k _ H11 (Same.refl _) (.int _)⟩
    refine seq_ (ifs_ ⟨_, rfl, rfl, _, rfl, ite2 (fun e2 => ?_) (fun m2 => nx_ ?_)⟩)
    · refine seq_ (asg_ ⟨Nat.zero_le _, fun L nL => nm1 (nx_ ?_)⟩)
      have aL := D7.apart nL
      have nL6 : H6 L = none := s7.free nL
      have t8 := same_upd (o := .lst []) nL
      have hL8 : (upd H7 L (.lst [])) L = some (.lst []) := upd_same
      refine gen3 fun H8 e8 => ?_
      rw [← e8] at t8 hL8
      clear e8
      have l8 := t8 _ _ l7
      have lL : l ≠ L := fun e => by rw [← e, l7] at nL; cases nL
      refine seq_ ⟨_, rfl, by decide, by decide, for_it (n := 60) walk_range (fun i σ H9 => ∃ (y9 y10 : Option V) (vs : List V) (rows : List PyData), σ = [some (.ref s), some (.int (way : Int)), some (.ref l), some (.int big), some (.ref S), some (.ref B), some vi, none, some (.ref L), y9, y10, none, none, none, none] ∧ Da H9 s c ∧ Ud s c H6 H9 ∧ H9 L = some (.lst vs) ∧ DpAll K H9 vs rows ∧ rows.length = i ∧ ∀ x ∈ rows, Row1 [a0, a1, a2, a3] [a4, a5, a6, a7] [] [] 0 0 x 1 ∧ Do Clx [] [a0, a1, a2, a3] [a4, a5, a6, a7] [] 10 x ∧ cost2 10 x = 1) ⟨_, _, [], [], rfl, D7.same t8, u7.trans (Ud.of t8), hL8, .nil, rfl, fun x hx => by cases hx⟩ (fun _ _ _ _ _ => trivial) ?_ ?_⟩
      · rintro i x σ H9z H9 hi ⟨y9, y10, vs, rows, rfl, D9, u9, hL9, hvs, hlr, hrows⟩ ⟨rfl, hx⟩
        have hin : i < 60 := hi
        have ex : x = .int (i : Int) := by rw [hx]; simp
        subst ex
        have l9 := u9 _ _ l6 ns nc
        refine nm1 (seq_ (asg_ ⟨_, rfl, _, rfl, 4, rfl, l, _, rfl, sl l9, fun p np => ?_⟩))
        rw [cut4 rfl]
        have t10 := same_upd (o := .lst (([a0, a1, a2, a3, a4, a5, a6, a7, a8, a9, a10, a11].take 4).map V.str)) np
        have hp10 : (upd H9 p (.lst (([a0, a1, a2, a3, a4, a5, a6, a7, a8, a9, a10, a11].take 4).map V.str))) p = some (.lst (([a0, a1, a2, a3] : List Str).map V.str)) := upd_same
        have ap := D9.apart np
        refine ⟨s, c, p, _, rfl, D9.same t10, ap.1, ap.2, hp10, by show 0 < 4; decide, by show 4 ≤ 1000; decide, fun j v H11 hj D11 u11 => ?_⟩
        obtain ⟨z, rfl, hz⟩ : ∃ z, v = .str z ∧ z ∈ [a0, a1, a2, a3] := by
          rw [List.getElem?_map] at hj
          cases e : ([a0, a1, a2, a3] : List Str)[j]? with
          | none => rw [e] at hj; cases hj
          | some z => rw [e] at hj; cases hj; exact ⟨z, rfl, List.mem_of_getElem? e⟩
        have nz : isNameL z = true := hnm z (by simp only [List.mem_cons, List.not_mem_nil, or_false] at hz ⊢; rcases hz with e | e | e | e <;> simp [e])
        refine ⟨_, rfl, _, rfl, _, _, rfl, rfl, by show 3 ≤ sizeLine; decide, fun pw npw => nm1 (nx_ ?_)⟩
        have t12 := same_upd (o := .tup [V.str "write", V.str z, V.int (big - (i : Int))]) npw
        have hw12 : Dp K (upd H11 pw (.tup [V.str "write", V.str z, V.int (big - (i : Int))])) (.ref pw) (.tuple [.str "write", .str z, .int (big - (i : Int))]) := .tup (stt upd_same) (.cons (.str _) (.cons (.str _) (.cons (.int _) .nil)))
        refine gen3 fun H12 e12 => ?_
        rw [← e12] at t12 hw12
        clear e12
        have u912 : Ud s c H9 H12 := ((Ud.of t10).trans u11).trans (Ud.of t12)
        have D12 := D11.same t12
        have hL12 := u912 _ _ hL9 aL.1 aL.2
        refine ⟨_, rfl, .inl ⟨rfl, _, sl hL12⟩, cons_ (call_ (cons_ ⟨_, rfl, cons_ (run_lst (K := K) (ds := [.tuple [.str "tell", .int (i : Int)], .tuple [.str "rest", .int 9], .tuple [.str "write", .str z, .int (big - (i : Int))]]) ?_ fun pl H13 vs13 n13 s13 hl13 d13 => ?_)⟩))⟩
        · exact mk_cons (mk_tup (mk_cons mk_str (mk_cons (mk_var rfl (.int _)) mk_nil))) (mk_cons (mk_tup (mk_cons mk_str (mk_cons mk_int mk_nil))) (mk_cons (mk_var rfl hw12) mk_nil))
        have lv13 := dpAll_len d13
        have apl := D12.apart n13
        refine ⟨s, c, pl, _, rfl, D12.same s13, apl.1, apl.2, hl13, by rw [lv13]; show 0 < 3; decide, by rw [lv13]; show 3 ≤ 1000; decide, fun j2 v2 H14 hj2 D14 u14 => ?_⟩
        obtain ⟨d, hd, hvd⟩ := dpAll_inv d13 hj2
        have u914 : Ud s c H9 H14 := (u912.trans (Ud.of s13)).trans u14
        have hL14 := u914 _ _ hL9 aL.1 aL.2
        have ci : Clc (.int (i : Int)) := Clc.int (Nat.le_trans (show ((i : Nat) : Int).natAbs ≤ 100 by omega) (by decide))
        have hbi : (big - (i : Int)).natAbs ≤ 10 ^ 41 := by
          have h41 : (10 : Nat) ^ 41 = 10 * 10 ^ 40 := by decide
          have h40 : (10 : Nat) ^ 40 > 100 := by decide
          omega
        have cw : Clc (.int (big - (i : Int))) := Clc.int hbi
        have hrow : (Row1 [a0, a1, a2, a3] [a4, a5, a6, a7] [] [] 0 0 d 1 ∧ Do Clx [] [a0, a1, a2, a3] [a4, a5, a6, a7] [] 10 d ∧ cost2 10 d = 1) := by
          match j2, hd with
          | 0, hd => cases hd; exact ⟨row_tell ci (by decide) (by decide), .tell ci.clx, rfl⟩
          | 1, hd => cases hd; exact ⟨row_rest (by decide) (by decide) (by decide), .rest (by decide) (by decide), rfl⟩
          | 2, hd => cases hd; exact ⟨row_write nz hz cw (by decide) (by decide), .write hz cw.clx, rfl⟩
          | j + 3, hd => simp at hd
        have tupR : tupAll rows = true := by
          have : ∀ xs : List PyData, (∀ x ∈ xs, tupD x = true) → tupAll xs = true := fun xs => by
            induction xs with
            | nil => intro _; rfl
            | cons x xs ih =>
              intro hx
              simp only [tupAll, Bool.and_eq_true]
              exact ⟨hx x (List.mem_cons_self ..), ih fun y hy => hx y (List.mem_cons_of_mem _ hy)⟩
          exact this rows fun x hx => (hrows x hx).1.tup
        have hvs14 := u914.dpAll D9 tupR hvs
        have hvd14 : Dp K H14 v2 d := u14.dp (D12.same s13) hrow.1.tup hvd
        refine ⟨L, vs, v2, rfl, rfl, hL14, ?_, ?_⟩
        · have h1 := dpAll_len hvs
          exact small1000 (by omega)
        · refine ⟨_, _, vs ++ [v2], rows ++ [d], rfl, D14.put aL, (u9.trans u914).own nL6, upd_same, ?_, by rw [List.length_append, hlr]; rfl, fun x hx => ?_⟩
          · exact dpAll_app (dpAll_keep (fun _ _ h => sqt_setl hL14 h) tupR hvs14) (.cons (dp_keep (fun _ _ h => sqt_setl hL14 h) hrow.1.tup hvd14) .nil)
          · rcases List.mem_append.mp hx with hx | hx
            · exact hrows x hx
            · rw [List.mem_singleton.mp hx]; exact hrow
      · rintro σ H9 ⟨y9, y10, vs, rows, rfl, D9, u9, hL9, hvs, hlr, hrows⟩
        refine nx_ (close rfl rfl rfl u9 fun R k => cb_ (cons_ ⟨_, rfl, L, vs, rfl, .inl ⟨sl hL9, fun tp ntp => ?_⟩⟩))
        have st := same_upd (o := .tup vs) ntp
        exact k _ rows _ (D9.same st) (Ud.of st) (.tup (stt upd_same) (st.dpAll hvs)) (fam2 hrows (by omega))
    refine seq_ (ifs_ ⟨_, rfl, rfl, _, rfl, ite2 (fun e3 => ?_) (fun m3 => nx_ ?_)⟩)
    · refine seq_ (asg_ (MkE.run (K := K) (d := .tuple ([.tuple [.str "write", .str a0, .tuple [.str "minus", .int 0, .int big]], .tuple [.str "fail", .str a0]] ++ innR a8)) ?_ fun v8 H8 s8 h8 => nm1 (nx_ (seq_ ?_))))
      · exact mk_cat (mk_tup (mk_cons (mk_tup (mk_cons mk_str (mk_cons (ixN (j := 0) rfl l7 rfl) (mk_cons (mk_tup (mk_cons mk_str (mk_cons mk_int (mk_cons (mk_var rfl (.int _)) mk_nil)))) mk_nil)))) (mk_cons (mk_tup (mk_cons mk_str (mk_cons (ixN (j := 0) rfl l7 rfl) mk_nil))) mk_nil))) (mk_var rfl hvi) (by show 5 ≤ sizeLine; decide)
      have hB8 : H8 B = some (.lst (([a4, a5, a6, a7] : List Str).map V.str)) := s8 _ _ (s7 _ _ hB)
      refine ⟨_, rfl, B, rfl, ⟨_, sl hB8⟩, for_it (walk_list (xs := ([a4, a5, a6, a7] : List Str).map V.str)) (fun i σ H9 => ∃ (v8 : V) (rows : List PyData) (y11 : Option V), σ = [some (.ref s), some (.int (way : Int)), some (.ref l), some (.int big), some (.ref S), some (.ref B), some vi, none, some v8, none, none, y11, none, none, none] ∧ Same H8 H9 ∧ Dp K H9 v8 (.tuple rows) ∧ HldI [a0, a1, a2, a3] [a4, a5, a6, a7] i rows) ⟨v8, _, _, rfl, Same.refl _, h8, hld0 n0 (by simp) n8 hbig1⟩ (fun i σ H9 _ g => by obtain ⟨_, _, _, _, g, _⟩ := g; exact sl (g _ _ hB8)) ?_ ?_⟩
      · rintro i x σ H9 H10 hi ⟨v9, rows, y11, rfl, s9, h9, I9⟩ ⟨rfl, gx⟩
        have hi4 : i < 4 := hi
        rw [List.getElem?_map] at gx
        obtain ⟨z, hz, rfl⟩ : ∃ z, ([a4, a5, a6, a7] : List Str)[i]? = some z ∧ x = .str z := by
          cases e : ([a4, a5, a6, a7] : List Str)[i]? with
          | none => rw [e] at gx; cases gx
          | some z => rw [e] at gx; cases gx; exact ⟨z, rfl, rfl⟩
        have mz := List.mem_of_getElem? hz
        have nz : isNameL z = true := hnm z (by simp only [List.mem_cons, List.not_mem_nil, or_false] at mz ⊢; rcases mz with e | e | e | e <;> simp [e])
        refine nm1 (asg_ (MkE.run (K := K) (d := .tuple [.tuple [.str "hold", .str z, .tuple rows]]) ?_ fun v11 H11 s11 h11 => ⟨v11, _, _, rfl, s9.trans s11, h11, I9.up hi4 nz mz⟩))
        exact mk_tup (mk_cons (mk_tup (mk_cons mk_str (mk_cons (mk_var rfl (.str _)) (mk_cons (mk_var rfl h9) mk_nil)))) mk_nil)
      · rintro σ H9 ⟨v9, rows, y11, rfl, s9, h9, I9⟩
        have s79 := s8.trans s9
        have l9 := s79 _ _ l7
        refine nx_ (closeM ([.tuple [.str "try", .tuple rows, .tuple [.tuple [.str "read", .str a9, .str a0], .tuple [.str "tell", .str a9]]]] ++ innR a8) rfl rfl rfl (D7.same s79) (u7.trans (Ud.of s79)) ?_ (fam3 I9 n0 (by simp) n8 n9))
        exact mk_cat (mk_tup (mk_cons (mk_tup (mk_cons mk_str (mk_cons (mk_var rfl h9) (mk_cons (mk_tup (mk_cons (mk_tup (mk_cons mk_str (mk_cons (ixN (j := 9) rfl l9 rfl) (mk_cons (ixN (j := 0) rfl l9 rfl) mk_nil)))) (mk_cons (mk_tup (mk_cons mk_str (mk_cons (ixN (j := 9) rfl l9 rfl) mk_nil))) mk_nil))) mk_nil)))) mk_nil)) (mk_var rfl (s79.dp hvi)) (by show 4 ≤ sizeLine; decide)
    refine seq_ (ifs_ ⟨_, rfl, rfl, _, rfl, ite2 (fun e4 => ?_) (fun m4 => nx_ ?_)⟩)
    · refine seq_ (asg_ ⟨_, rfl, s, c, _, rfl, D7, by decide, by decide, fun r H8 r0 r9 D8 u8 => nm1 (nx_ (seq_ ?_))⟩)
      have u68 := u7.trans u8
      have dc0 : Dc 0 (.int r) := ⟨rfl, Good.int r 0, rfl, fun ws => by show r.natAbs ≤ 1000 + 0; omega⟩
      refine ⟨_, rfl, by decide, by decide, for_it (n := 48) walk_range (fun i σ H9 => ∃ (v12 : V) (x : PyData) (y9 : Option V), σ = [some (.ref s), some (.int (way : Int)), some (.ref l), some (.int big), some (.ref S), some (.ref B), some vi, none, none, y9, none, none, some v12, none, none] ∧ Da H9 s c ∧ Ud s c H6 H9 ∧ Dp K H9 v12 x ∧ Dc i x) ⟨.int r, .int r, _, rfl, D8, u68, .int _, dc0⟩ (fun _ _ _ _ _ => trivial) ?_ ?_⟩
      · rintro i x σ H9z H9 hi ⟨v12, y, y9, rfl, D9, u9, h12, d12⟩ ⟨rfl, hx⟩
        have hin : i < 48 := hi
        have ex : x = .int (i : Int) := by rw [hx]; simp
        subst ex
        refine nm1 (asg_ (op_ (run_lst (K := K) (ds := [.tuple [.str "sum", y, .int 1], .tuple [.str "minus", y, .int 1], .tuple [.str "less", y, .int (i : Int)], .tuple [.str "minus", .int 1, y]]) ?_ fun pl H10 vs10 n10 s10 hl10 d10 => ?_)))
        · exact mk_cons (mk_tup (mk_cons mk_str (mk_cons (mk_var rfl h12) (mk_cons mk_int mk_nil)))) (mk_cons (mk_tup (mk_cons mk_str (mk_cons (mk_var rfl h12) (mk_cons mk_int mk_nil)))) (mk_cons (mk_tup (mk_cons mk_str (mk_cons (mk_var rfl h12) (mk_cons (mk_var rfl (.int _)) mk_nil)))) (mk_cons (mk_tup (mk_cons mk_str (mk_cons mk_int (mk_cons (mk_var rfl h12) mk_nil)))) mk_nil)))
        have apl := D9.apart n10
        refine ⟨_, rfl, s, c, _, rfl, D9.same s10, by decide, by decide, fun r2 H11 q0 q4 D11 u11 => ?_⟩
        have hl11 := u11 _ _ hl10 apl.1 apl.2
        have fin : ∀ {j : Nat} {d : PyData}, ([.tuple [.str "sum", y, .int 1], .tuple [.str "minus", y, .int 1], .tuple [.str "less", y, .int (i : Int)], .tuple [.str "minus", .int 1, y]] : List PyData)[j]? = some d → Dc (i + 1) d → rIxL K (.ref pl) (.int (j : Int)) H11 fun x H' => ∃ (v12' : V) (x' : PyData) (y9' : Option V), [some (V.ref s), some (.int (way : Int)), some (.ref l), some (.int big), some (.ref S), some (.ref B), some vi, none, none, some (.int (i : Int)), none, none, some x, none, none] = [some (.ref s), some (.int (way : Int)), some (.ref l), some (.int big), some (.ref S), some (.ref B), some vi, none, none, y9', none, none, some v12', none, none] ∧ Da H' s c ∧ Ud s c H6 H' ∧ Dp K H' v12' x' ∧ Dc (i + 1) x' := fun {j d} hj hd => by
          obtain ⟨w', hw1, hw2⟩ := dp_at' d10 hj
          exact ⟨pl, _, _, w', rfl, rfl, sl hl11, atI_nat hw1, w', d, _, rfl, D11, (u9.trans (Ud.of s10)).trans u11, u11.dp (D9.same s10) hd.tup hw2, hd⟩
        rcases (by omega : r2 = 0 ∨ r2 = 1 ∨ r2 = 2 ∨ r2 = 3) with e | e | e | e <;> rw [e]
        · exact fin (j := 0) rfl d12.sum
        · exact fin (j := 1) rfl d12.minus
        · exact fin (j := 2) rfl d12.less
        · exact fin (j := 3) rfl d12.minus2
      · rintro σ H9 ⟨v12, y, y9, rfl, D9, u9, h12, d12⟩
        have l9 := u9 _ _ l6 ns nc
        refine nx_ (closeM [.tuple [.str "tell", y], .tuple [.str "write", .str a3, y]] rfl rfl rfl D9 u9 ?_ (fam4 d12 n3 (by simp)))
        exact mk_tup (mk_cons (mk_tup (mk_cons mk_str (mk_cons (mk_var rfl h12) mk_nil))) (mk_cons (mk_tup (mk_cons mk_str (mk_cons (ixN (j := 3) rfl l9 rfl) (mk_cons (mk_var rfl h12) mk_nil)))) mk_nil))
    refine seq_ (asg_ ⟨_, rfl, s, c, _, rfl, D7, by decide, by decide, fun k0 H8 k1 k9 D8 u8 => nm1 (nx_ ?_)⟩)
    have l8 := u8 _ _ l7 ns nc
    have u68 := u7.trans u8
    refine seq_ (asg_ (MkE.run (K := K) (d := .tuple (finR k0 a1 big a0 (k0 % 3).toNat)) ?_ fun v13 H9 s9 h13 => nm1 (nx_ ?_)))
    · exact mk_cat (mk_tup (mk_cons (mk_tup (mk_cons mk_str (mk_cons (mk_var rfl (.int _)) mk_nil))) (mk_cons (mk_tup (mk_cons mk_str (mk_cons mk_int mk_nil))) (mk_cons (mk_tup (mk_cons mk_str (mk_cons (ixN (j := 1) rfl l8 rfl) (mk_cons (mk_var rfl (.int _)) mk_nil)))) mk_nil)))) (mk_rep (mk_tup (mk_cons (mk_tup (mk_cons mk_str (mk_cons (ixN (j := 0) rfl l8 rfl) mk_nil))) mk_nil)) (mk_md (mk_var rfl (.int k0)) mk_int (by decide)) (by omega) (by omega)) (by rw [List.length_replicate]; show 3 + _ ≤ sizeLine; exact Nat.le_of_lt (small1000 (by omega)))
    have l9 := s9 _ _ l8
    obtain ⟨zk, hzk, nzk⟩ : ∃ zk, ([a0, a1, a2, a3, a4, a5, a6, a7, a8, a9, a10, a11] : List Str)[(k0 % 2).toNat]? = some zk ∧ isNameL zk = true := by
      rcases (by omega : k0 % 2 = 0 ∨ k0 % 2 = 1) with e | e <;> rw [e]
      · exact ⟨a0, rfl, n0⟩
      · exact ⟨a1, rfl, n1⟩
    refine seq_ (asg_ (MkE.run (K := K) (d := .tuple [.str "catch", .tuple [.tuple [.str "often", .int 3, .tuple [.tuple [.str "try", .tuple [.tuple [.str "fail", .str zk]], .tuple (finR k0 a1 big a0 (k0 % 3).toNat)]]]], .str a0, .tuple [.tuple [.str "tell", .int big]]]) ?_ fun v14 H10 s10 h14 => nm1 (nx_ ?_)))
    · refine mk_tup (mk_cons mk_str (mk_cons (mk_tup (mk_cons (mk_tup (mk_cons mk_str (mk_cons mk_int (mk_cons (mk_tup (mk_cons (mk_tup (mk_cons mk_str (mk_cons (mk_tup (mk_cons (mk_tup (mk_cons mk_str (mk_cons ?_ mk_nil))) mk_nil)) (mk_cons (mk_var rfl h13) mk_nil)))) mk_nil)) mk_nil)))) mk_nil)) (mk_cons (ixN (j := 0) rfl l9 rfl) (mk_cons (mk_tup (mk_cons (mk_tup (mk_cons mk_str (mk_cons (mk_var rfl (.int _)) mk_nil))) mk_nil)) mk_nil))))
      exact fun H11 R s11 k => ⟨_, rfl, _, rfl, _, _, rfl, rfl, (by show (0 : Int) < 2; decide), l, _, k0 % 2, .str zk, rfl, rfl, sl (s11 _ _ l9), by
        have e : k0 % 2 = (((k0 % 2).toNat : Nat) : Int) := by omega
        rw [e]
        exact atI_nat (by rw [List.getElem?_map, hzk]; rfl), k _ H11 (Same.refl _) (.str _)⟩
    have s810 := s9.trans s10
    refine closeM [.tuple [.str "catch", .tuple [.tuple [.str "often", .int 3, .tuple [.tuple [.str "try", .tuple [.tuple [.str "fail", .str zk]], .tuple (finR k0 a1 big a0 (k0 % 3).toNat)]]]], .str a0, .tuple [.tuple [.str "tell", .int big]]], .tuple [.str "tell", .int (0 - big)]] rfl rfl rfl (D8.same s810) (u68.trans (Ud.of s810)) ?_ (fam5 (by omega) (by omega) n1 (by simp) n0 hbig nzk)
    exact mk_tup (mk_cons (mk_var rfl h14) (mk_cons (mk_tup (mk_cons mk_str (mk_cons (mk_sub mk_int (mk_var rfl (.int _))) mk_nil))) mk_nil))
end
end TP
namespace TP
open PySem PySem.Spec PyProof.Rows L2 HX HB HG HU HH HD HS HV HQ HK HN HJ TL HM HP HR HO HC HF
theorem s0_bd {cs : List (Str × Int)} (h : Sz cs (-99) 99) : BdI (s0 cs) := by
  refine ⟨(fun q hq => by cases hq), (fun q hq => ?_), (fun i hi => by cases hi), Nat.zero_le _, Int.le_refl _, (by show (0 : Int) ≤ 9 * ((0 : Nat) : Int); decide)⟩
  have h1 := h.rng q hq
  have h2 : mg4 (s0 cs) = 10 ^ 41 := by show 10 ^ 41 * 4 ^ 0 = 10 ^ 41; decide
  rw [h2]
  omega
theorem noW_nil : NoW [] := ⟨(fun h => by cases h), (fun h => by cases h), (fun h => by cases h)⟩
theorem cost_mono1 : ∀ (n : Nat) (rows : List PyData), cntD n rows ≤ cntD (n + 1) rows
  | 0, _ => Nat.zero_le _
  | n + 1, rows => by
    have ih := cost_mono1 n
    induction rows with
    | nil => exact Nat.le_refl _
    | cons r rs ihr =>
      have e : ∀ m : Nat, cntD (m + 1) (r :: rs) = (1 + ((bodiesD r).map fun b => cntD m (rowsD b)).sum) + cntD (m + 1) rs := fun m => by
        show ((r :: rs).map _).sum = _
        rw [List.map_cons, List.sum_cons]
        rfl
      have hb : ((bodiesD r).map fun b => cntD n (rowsD b)).sum ≤ ((bodiesD r).map fun b => cntD (n + 1) (rowsD b)).sum := by
        induction bodiesD r with
        | nil => exact Nat.le_refl _
        | cons b bs ihb =>
          rw [List.map_cons, List.sum_cons, List.map_cons, List.sum_cons]
          exact Nat.add_le_add (ih (rowsD b)) ihb
      rw [e, e]
      omega
theorem cnt_up (n k : Nat) (rows : List PyData) : cntD n rows ≤ cntD (n + k) rows := by
  induction k with
  | zero => exact Nat.le_refl _
  | succ k ih => exact Nat.le_trans ih (cost_mono1 (n + k) rows)
section
variable {P : Program} {w : World} {K : PySem.W.Frag} {mg : Str → Option Value} {base : Heap}
def spLaw (K : PySem.W.Frag) : Sp := fun vs H Q _ => ∃ (a : Addr) (ns : List Int), vs = [.ref a] ∧ SqL K H a (ns.map V.int) ∧ ns.length ≤ 63 ∧ ∀ H', Q (.bl true) H'
theorem ok_law {f : Addr} {fd : FuncData} (F : Fun K "law" "law" s_law f fd) (T : Tp K w mg) : FnG P w K mg base CX0 160 f fd ["_law_script"] (spLaw K) := by
  refine okGn F sc_law (fun vs H Q E h => ?_) (fun cdv A outer s H vs Q E sh hr h => ?_)
  · obtain ⟨a, ns, rfl, _⟩ := h
    rfl
  · obtain ⟨a, ns, rfl, hS, hl, fin⟩ := h
    have hu := hu_of hr
    refine ⟨_, (pss_cons (ps_set (i := 1) sc_law.nd rfl (.inl rfl) (pcall T.D_begun (ok_begun T) (hr.mono (by omega)) (by rfl) (pa_cons (pv 0) pa_nil)))
  (pss_cons (ps_set (i := 2) sc_law.nd rfl (.inl rfl) (pcall T.D_names (ok_names T) (hr.mono (by omega)) (by rfl) (pa_cons (pv 1) (pa_cons pe_int pa_nil))))
  (pss_cons (ps_for PassesOwn.never rfl (pi_range1 (by rfl) T.range (pa_cons pe_int pa_nil)) (pg_name (i := 3) sc_law.nd rfl (.inl rfl))
  (pss_cons (ps_asg (pcall T.D_family (ok_family T) (hr.mono (by omega)) (by rfl) (pa_cons (pv 1) (pa_cons (pv 3) (pa_cons (pv 2) pa_nil)))) (pg_tup rfl (pgs_cons (pg_name (i := 4) sc_law.nd rfl (.inl rfl)) (pgs_cons (pg_name (i := 5) sc_law.nd rfl (.inl rfl)) (pgs_cons (pg_name (i := 6) sc_law.nd rfl (.inl rfl)) pgs_nil)))))
  (pss_cons (ps_set (i := 7) sc_law.nd rfl (.inl rfl) (pe_makeK T.mk_Program (ok_prog T 64 (by decide)) (hr.mono (by omega)) (by rfl) T.gC_Program (kb_progC T).choose_spec passN (pa_cons (pv 4) pa_nil) (pk_cons (pv 5) (pk_cons (pv 6) pk_nil))))
  (pss_one (ps_if (pt_not (pt_val (gcall T.D_lsame (ok_lsame T) sh (hr.mono (by omega)) (by rfl) (pa_cons (pcall T.D_lone (ok_lone T) (hr.mono (by omega)) (by rfl) (pa_cons (pv 7) pa_nil)) (pa_cons (pcall T.D_ldue (ok_ldue T) (hr.mono (by omega)) (by rfl) (pa_cons (pv 7) pa_nil)) pa_nil)))))
  (pss_one (ps_ret pe_bl))
  pss_nil)))))
  (pss_one (ps_ret pe_bl))))), ?_⟩
    refine ⟨_, rfl, a, ns, rfl, hS, hl, fun d c H1 s1 nd nc D1 => ?_⟩
    refine ⟨_, rfl, d, c, 12, rfl, D1, by decide, fun l zs H2 nl D2 u2 hl2 hlen znd hnm => ?_⟩
    have al : l ≠ d ∧ l ≠ c := D1.apart nl
    refine ⟨_, rfl, by decide, by decide, for_it (n := 6) walk_range (fun i σ H3 => ∃ (y3 y4 y5 y6 y7 : Option V), σ = [some (.ref a), some (.ref d), some (.ref l), y3, y4, y5, y6, y7] ∧ Da H3 d c ∧ Ud d c H2 H3) ⟨_, _, _, _, _, rfl, D2, Ud.refl _⟩ (fun _ _ _ _ _ => trivial) ?_ ?_⟩
    · rintro i x σ H3z H3 hi ⟨y3, y4, y5, y6, y7, rfl, D3, u3⟩ ⟨rfl, hx⟩
      have ex : x = .int (i : Int) := by rw [hx]; simp
      subst ex
      refine nm1 (seq_ (asg_ ⟨_, rfl, _, rfl, _, rfl, d, c, l, i, zs, rfl, hi, D3, al.1, al.2, u3 _ _ hl2 al.1 al.2, hlen, znd, hnm, fun t D B v cs rows H4 ht hv hD hB hcs hrg hf D4 u4 => ?_⟩))
      have hla : (zs.take 4).length = 4 := by rw [List.length_take, hlen]; rfl
      have zc : Sz cs (-99) 99 := ⟨fun q hq => hnm _ (List.mem_of_mem_take (by rw [← hcs]; exact List.mem_map.mpr ⟨q, hq, rfl⟩)), by rw [hcs]; exact znd.sublist (List.take_sublist ..), by have h1 := congrArg List.length hcs; rw [List.length_map] at h1; omega, hrg⟩
      have bs : ((zs.drop 4).take 4).Sublist zs := (List.take_sublist ..).trans (List.drop_sublist ..)
      have hbn : ∀ z ∈ (zs.drop 4).take 4, isNameL z = true := fun z hz => hnm z (bs.subset hz)
      have hbl : ((zs.drop 4).take 4).length ≤ 4 := by rw [List.length_take]; omega
      have hlk : locksD ((zs.drop 4).take 4) = true := by
        unfold locksD
        rw [decide_eq_true hbl, decide_eq_true (znd.sublist bs), List.all_eq_true.mpr hbn]
        rfl
      have fr : Rt64 (cs.map (·.1)) ((zs.drop 4).take 4) (([] : List (Str × Int)).map (·.1)) rows := by rw [hcs]; exact hf.r
      have fd : ∀ x ∈ rows, Do Clx [] (cs.map (·.1)) ((zs.drop 4).take 4) (([] : List (Str × Int)).map (·.1)) 10 x := by rw [hcs]; exact hf.d
      have fc := hf.c
      have z0 : Sz ([] : List (Str × Int)) 1 4 := ⟨(fun q h => by cases h), List.nodup_nil, Nat.zero_le _, fun q h => by cases h⟩
      have hst : (runB (runR 10) rows (s0 cs)).2.steps ≤ 0 + costC 10 rows := runB_steps2 noW_nil 10 rows fd (s0 cs)
      have hok := runB_ok noW_nil 10 rows fd (s0 cs) ⟨Nat.le_refl _, Nat.le_refl _, rfl⟩
      have hnr := runB_nm noW_nil 10 rows fd (s0 cs)
      have hbd := runB_bd noW_nil 10 rows fd (s0 cs) (s0_bd zc)
      have hpw := runB_lenD noW_nil 10 rows fd (s0 cs)
      have hco : costB 10 rows < 10 ^ 7 := by
        have h1 := cost_cnt 10 rows
        have h2 : cntD 10 rows ≤ cntD 64 rows := cnt_up 10 54 rows
        have h3 := fr.c
        have h4 : 3 ^ 10 * cntD 10 rows ≤ 3 ^ 10 * 60 := Nat.mul_le_mul_left _ (by omega)
        have h5 : 3 ^ 10 * 60 < 10 ^ 7 := by decide
        omega
      have hc1 : cs.length ≤ 1000 := Nat.le_trans zc.few (by decide)
      refine ⟨t, _, rfl, ht, rfl, _, _, rfl, _, _, rfl, _, _, rfl, rfl, nx_ (seq_ (asg_ ⟨_, rfl, _, rfl, _, rfl, rfl, rfl, fun x dx nx ndx _ => ?_⟩))⟩
      refine made64 zc hlk hbn hbl z0 fr hv (.inr ⟨D, rfl, hD⟩) (.inr ⟨B, rfl, hB⟩) (.inl ⟨rfl, rfl⟩) nx ndx fun H5 s5 g5 => ⟨rfl, nm1 (nx_ ?_)⟩
      refine ifs_ ⟨_, rfl, H4, x, cs, _, [], rows, _, [], _, [], rfl, g5, fd, noW_nil, hco, hc1, fun t1 S1 T1 f1 H6 s6 ht1 hf1 hS1 hT1 _ _ _ => ?_⟩
      refine ⟨_, rfl, H4, x, cs, _, [], rows, _, [], _, [], rfl, g5.same s6, fd, noW_nil, hco, hc1, fun big => absurd big (by omega), fun _ t2 S2 T2 f2 H7 s7 ht2 hf2 hS2 hT2 _ _ _ => ?_⟩
      have g1 : ToldAt K H7 t1 S1 T1 f1 (runB (runR 10) rows (s0 cs)) := ToldAt.same ⟨ht1, hf1, hS1, hT1⟩ s7
      have g2 : ToldAt K H7 t2 S2 T2 f2 (runB (runR 10) rows (s0 cs)) := ⟨ht2, hf2, hS2, hT2⟩
      refine ⟨t1, S1, T1, f1, t2, S2, T2, f2, _, cs.map (·.1), rfl, g1, g2, hnr, hok.ok, (fun z hz => by obtain ⟨q, hq, e⟩ := List.mem_map.mp hz; rw [← e]; exact zc.names q hq), zc.nd, by rw [List.length_map]; exact zc.few, hbd, by omega, by omega, fun H8 s8 => ⟨_, rfl, ?_⟩⟩
      have s48 := s5.trans (s6.trans (s7.trans s8))
      exact ite2 (fun h => absurd h (by decide)) fun _ => nx_ ⟨_, _, _, _, _, rfl, D4.same s48, (u3.trans u4).trans (Ud.of s48)⟩
    · rintro σ H3 ⟨y3, y4, y5, y6, y7, rfl, D3, u3⟩
      exact fin _
end
end TP
namespace TP
open PySem PySem.Spec PyProof.Rows L2 HX HB HG HU HH HD HS HV HQ HK HN HJ TL HM HP HR HO HC HF
/-! ### the head -/
def faL0 : List He.Fa := [.glo "is_name", .glo "is_number", .glo "is_calc", .glo "bodies_of", .glo "is_part", .glo "is_row", .glo "around_in", .glo "wrong_in", .glo "first_wrong", .glo "places_in", .glo "are_sizes", .glo "are_locks", .meth "NoProgram" "__init__", .meth "Program" "__init__", .meth "NoPlace" "__init__", .glo "row_at", .meth "Program" "places", .meth "Program" "row", .meth "Program" "__eq__", .meth "Program" "__len__"]
def faL1 : List He.Fa := [.meth "Program" "body", .meth "Program" "cells", .meth "Program" "locks", .meth "Program" "channels", .glo "_law_begun", .glo "_law_draw", .glo "_law_pick", .glo "_law_names", .glo "worth", .meth "Lone" "__init__", .meth "Lone" "do_plain", .meth "Lone" "do_row", .meth "Lone" "do_body", .glo "lone", .glo "_law_worth", .glo "_law_alone_plain", .glo "_law_alone", .glo "_law_due_alone", .glo "_law_same_lone", .glo "_law_wrapped"]
def faL2 : List He.Fa := [.glo "_law_family", .glo "law", .glo "NoProgram", .exm "NoProgram" "NoProgram" true, .noat "NoProgram" "place", .glo "Program", .cls "Program", .mkr "Program", .noat "Program" "spots", .noat "Program" "tree", .noat "Program" "first", .noat "Program" "bolts", .noat "Program" "widths", .glo "NoPlace", .exm "NoPlace" "NoPlace" true, .noat "NoPlace" "at", .glo "Lone", .cls "Lone", .mkr "Lone", .noat "Lone" "store"]
def faL3 : List He.Fa := [.noat "Lone" "said", .noat "Lone" "hour", .noat "Lone" "basket", .glo "YardError", .str "LETTERS" "abcdefghijklmnopqrstuvwxyz", .glo "KINDS", .glo "PARTS", .glo "RANGES", .int "MOST_DEEP" 9, .int "MOST_OFTEN" 2, .int "MOST_ROWS" 60, .int "MOST_NAMES" 4, .free "all", .free "bool", .free "dict", .free "enumerate", .free "int", .free "isinstance", .free "len", .free "list"]
def faL4 : List He.Fa := [.free "max", .free "range", .free "repr", .free "set", .free "sorted", .free "str", .free "tuple", .free "zip"]
def faL : List He.Fa := faL0 ++ faL1 ++ faL2 ++ faL3 ++ faL4
def dd_isname : He.DefD := ⟨("is_name", none), "is_name", "is_name", defArgs s_isname, defBody s_isname, defScope s_isname, [], []⟩
def dd_isnum : He.DefD := ⟨("is_number", none), "is_number", "is_number", defArgs s_isnum, defBody s_isnum, defScope s_isnum, [], []⟩
def dd_iscalc : He.DefD := ⟨("is_calc", none), "is_calc", "is_calc", defArgs s_iscalc, defBody s_iscalc, defScope s_iscalc, [], []⟩
def dd_bodies : He.DefD := ⟨("bodies_of", none), "bodies_of", "bodies_of", defArgs s_bodies, defBody s_bodies, defScope s_bodies, [], []⟩
def dd_ispart : He.DefD := ⟨("is_part", none), "is_part", "is_part", defArgs s_ispart, defBody s_ispart, defScope s_ispart, [], []⟩
def dd_isrow : He.DefD := ⟨("is_row", none), "is_row", "is_row", defArgs s_isrow, defBody s_isrow, defScope s_isrow, [], []⟩
def dd_around : He.DefD := ⟨("around_in", none), "around_in", "around_in", defArgs s_around, defBody s_around, defScope s_around, [], []⟩
def dd_wrong : He.DefD := ⟨("wrong_in", none), "wrong_in", "wrong_in", defArgs s_wrong, defBody s_wrong, defScope s_wrong, [], []⟩
def dd_first : He.DefD := ⟨("first_wrong", none), "first_wrong", "first_wrong", defArgs s_first, defBody s_first, defScope s_first, [], [("cells", .adr (HH.kwAt ("first_wrong", none) "cells")), ("locks", .adr (HH.kwAt ("first_wrong", none) "locks")), ("channels", .adr (HH.kwAt ("first_wrong", none) "channels"))]⟩
def dd_places : He.DefD := ⟨("places_in", none), "places_in", "places_in", defArgs s_places, defBody s_places, defScope s_places, [], []⟩
def dd_sizes : He.DefD := ⟨("are_sizes", none), "are_sizes", "are_sizes", defArgs s_sizes, defBody s_sizes, defScope s_sizes, [], []⟩
def dd_locks : He.DefD := ⟨("are_locks", none), "are_locks", "are_locks", defArgs s_locks, defBody s_locks, defScope s_locks, [], []⟩
def dd_np : He.DefD := ⟨("NoProgram", some "__init__"), "__init__", "NoProgram.__init__", defArgs s_np, defBody s_np, defScope s_np, [], []⟩
def dd_prog : He.DefD := ⟨("Program", some "__init__"), "__init__", "Program.__init__", defArgs s_prog, defBody s_prog, defScope s_prog, [], [("cells", .non), ("locks", .non), ("channels", .non)]⟩
def dd_npl : He.DefD := ⟨("NoPlace", some "__init__"), "__init__", "NoPlace.__init__", defArgs s_npl, defBody s_npl, defScope s_npl, [], []⟩
def dd_rowat : He.DefD := ⟨("row_at", none), "row_at", "row_at", defArgs s_rowat, defBody s_rowat, defScope s_rowat, [], []⟩
def dd_pplaces : He.DefD := ⟨("Program", some "places"), "places", "Program.places", defArgs s_pplaces, defBody s_pplaces, defScope s_pplaces, [], []⟩
def dd_prow : He.DefD := ⟨("Program", some "row"), "row", "Program.row", defArgs s_prow, defBody s_prow, defScope s_prow, [], []⟩
def dd_peq : He.DefD := ⟨("Program", some "__eq__"), "__eq__", "Program.__eq__", defArgs s_peq, defBody s_peq, defScope s_peq, [], []⟩
def dd_plen : He.DefD := ⟨("Program", some "__len__"), "__len__", "Program.__len__", defArgs s_plen, defBody s_plen, defScope s_plen, [], []⟩
def dd_pbody : He.DefD := ⟨("Program", some "body"), "body", "Program.body", defArgs s_pbody, defBody s_pbody, defScope s_pbody, [], []⟩
def dd_pcells : He.DefD := ⟨("Program", some "cells"), "cells", "Program.cells", defArgs s_pcells, defBody s_pcells, defScope s_pcells, [], []⟩
def dd_plocks : He.DefD := ⟨("Program", some "locks"), "locks", "Program.locks", defArgs s_plocks, defBody s_plocks, defScope s_plocks, [], []⟩
def dd_pchans : He.DefD := ⟨("Program", some "channels"), "channels", "Program.channels", defArgs s_pchans, defBody s_pchans, defScope s_pchans, [], []⟩
def dd_begun : He.DefD := ⟨("_law_begun", none), "_law_begun", "_law_begun", defArgs s_begun, defBody s_begun, defScope s_begun, [], []⟩
def dd_draw : He.DefD := ⟨("_law_draw", none), "_law_draw", "_law_draw", defArgs s_draw, defBody s_draw, defScope s_draw, [], []⟩
def dd_pick : He.DefD := ⟨("_law_pick", none), "_law_pick", "_law_pick", defArgs s_pick, defBody s_pick, defScope s_pick, [], []⟩
def dd_names : He.DefD := ⟨("_law_names", none), "_law_names", "_law_names", defArgs s_names, defBody s_names, defScope s_names, [], []⟩
def dd_worth : He.DefD := ⟨("worth", none), "worth", "worth", defArgs s_worth, defBody s_worth, defScope s_worth, [], []⟩
def dd_linit : He.DefD := ⟨("Lone", some "__init__"), "__init__", "Lone.__init__", defArgs s_linit, defBody s_linit, defScope s_linit, [], []⟩
def dd_dop : He.DefD := ⟨("Lone", some "do_plain"), "do_plain", "Lone.do_plain", defArgs s_dop, defBody s_dop, defScope s_dop, [], []⟩
def dd_dor : He.DefD := ⟨("Lone", some "do_row"), "do_row", "Lone.do_row", defArgs s_dor, defBody s_dor, defScope s_dor, [], []⟩
def dd_dob : He.DefD := ⟨("Lone", some "do_body"), "do_body", "Lone.do_body", defArgs s_dob, defBody s_dob, defScope s_dob, [], []⟩
def dd_lone : He.DefD := ⟨("lone", none), "lone", "lone", defArgs s_lone, defBody s_lone, defScope s_lone, [], []⟩
def dd_lworth : He.DefD := ⟨("_law_worth", none), "_law_worth", "_law_worth", defArgs s_lworth, defBody s_lworth, defScope s_lworth, [], []⟩
def dd_alop : He.DefD := ⟨("_law_alone_plain", none), "_law_alone_plain", "_law_alone_plain", defArgs s_alop, defBody s_alop, defScope s_alop, [], []⟩
def dd_alo : He.DefD := ⟨("_law_alone", none), "_law_alone", "_law_alone", defArgs s_alo, defBody s_alo, defScope s_alo, [], []⟩
def dd_ldue : He.DefD := ⟨("_law_due_alone", none), "_law_due_alone", "_law_due_alone", defArgs s_ldue, defBody s_ldue, defScope s_ldue, [], []⟩
def dd_lsame : He.DefD := ⟨("_law_same_lone", none), "_law_same_lone", "_law_same_lone", defArgs s_lsame, defBody s_lsame, defScope s_lsame, [], []⟩
def dd_wrapped : He.DefD := ⟨("_law_wrapped", none), "_law_wrapped", "_law_wrapped", defArgs s_wrapped, defBody s_wrapped, defScope s_wrapped, [], []⟩
def dd_family : He.DefD := ⟨("_law_family", none), "_law_family", "_law_family", defArgs s_family, defBody s_family, defScope s_family, [], []⟩
def dd_law : He.DefD := ⟨("law", none), "law", "law", defArgs s_law, defBody s_law, defScope s_law, [], []⟩
def fnL0 : List He.DefD := [dd_isname, dd_isnum, dd_iscalc, dd_bodies, dd_ispart, dd_isrow, dd_around, dd_wrong, dd_first, dd_places, dd_sizes, dd_locks, dd_np, dd_prog, dd_npl, dd_rowat, dd_pplaces, dd_prow, dd_peq, dd_plen]
def fnL1 : List He.DefD := [dd_pbody, dd_pcells, dd_plocks, dd_pchans, dd_begun, dd_draw, dd_pick, dd_names, dd_worth, dd_linit, dd_dop, dd_dor, dd_dob, dd_lone, dd_lworth, dd_alop, dd_alo, dd_ldue, dd_lsame, dd_wrapped]
def fnL2 : List He.DefD := [dd_family, dd_law]
def fnL : List He.DefD := fnL0 ++ fnL1 ++ fnL2
open HH in
def exL0 : List HH.Ex := [fun K => HQ.exB K (He.ga K "NoProgram"), fun K => HQ.inB K (He.ga K "NoProgram"), fun K => HQ.exB K (He.ga K "NoPlace"), fun K => HQ.inB K (He.ga K "NoPlace"), fun K => HQ.bsB K (He.ga K "YardError"), fun K => He.tupB K "KINDS" [.str "sum", .str "minus", .str "less"], dtB "PARTS" [("put", [.str "name", .str "calc"]), ("read", [.str "name", .str "cell"]), ("write", [.str "cell", .str "calc"]), ("tell", [.str "calc"]), ("send", [.str "channel", .str "calc"]), ("take", [.str "name", .str "channel"]), ("hold", [.str "lock", .str "body"]), ("rest", [.str "rest"]), ("nest", [.str "scope", .str "body"]), ("within", [.str "span", .str "scope", .str "body"]), ("start", [.str "home", .str "body"]), ("off", [.str "entered"]), ("shield", [.str "body"]), ("fail", [.str "name"]), ("catch", [.str "body", .str "name", .str "body"]), ("try", [.str "body", .str "body"]), ("if", [.str "calc", .str "body", .str "body"]), ("often", [.str "times", .str "body"])], dtB "RANGES" [("rest", [.int 0, .int 9]), ("span", [.int 1, .int 9]), ("times", [.int 0, .int 3])], tpB (kwAt ("first_wrong", none) "cells") [], tpB (kwAt ("first_wrong", none) "locks") [], tpB (kwAt ("first_wrong", none) "channels") []]
open HH in
def exL : List HH.Ex := exL0
def tsL0 : List He.Tab := [(fun K => He.ga K "PARTS", ["put", "read", "write", "tell", "send", "take", "hold", "rest", "nest", "within", "start", "off", "shield", "fail", "catch", "try", "if", "often"]), (fun K => He.ga K "RANGES", ["rest", "span", "times"])]
def tsL : List He.Tab := tsL0
def names0 : List PySem.Str := ["LETTERS", "KINDS", "is_name", "is_number", "is_calc", "worth", "Lone", "lone", "YardError", "NoProgram", "NoPlace", "PARTS", "RANGES", "MOST_DEEP", "MOST_OFTEN", "bodies_of", "is_part", "is_row", "around_in", "wrong_in"]
def names1 : List PySem.Str := ["first_wrong", "places_in", "calc_words", "row_words", "body_words", "head_words", "MOST_ROWS", "MOST_NAMES", "are_sizes", "are_locks", "row_at", "Program", "_law_begun", "_law_draw", "_law_pick", "_law_names", "_law_alone", "_law_alone_plain", "_law_worth", "_law_due_alone"]
def names2 : List PySem.Str := ["_law_same_lone", "_law_wrapped", "_law_family"]
def names : List PySem.Str := names0 ++ names1 ++ names2
abbrev Rw : PySem.W.OpenRow := PySem.W.OpenLaw.row PySem.Challenge.rw_nestyard_k09_lone_at_the_bounds
abbrev qv : PySem.Program := PySem.W.view Rw.prog [50]
abbrev hk : PySem.W.Hook := HH.hookX 5 faL fnL exL tsL
def ob (s : PySem.W.SharedT) : HH.AlX := HH.obsXG 5 faL fnL exL tsL (HandSHeadRun.getT s)
theorem ob_eq (s : PySem.W.SharedT) : ob s = hk.obs s.abs := HH.obsXG_eq (HandSHeadRun.getT_eq s)
set_option maxHeartbeats 0 in
theorem runF (w : World) : HandSHeadRun.RunEq Rw qv hk ob 4000 names (w.withFollow "special-get-raises" false) := by
  intro os
  kernel_rfl
set_option maxHeartbeats 0 in
theorem runT (w : World) : HandSHeadRun.RunEq Rw qv hk ob 4000 names (w.withFollow "special-get-raises" true) := by
  intro os
  kernel_rfl
theorem run (w : World) : HandSHeadRun.RunEq Rw qv hk ob 4000 names w := PySem.W.byRow2 "special-get-raises" runF runT w
theorem facts {w : World} {K : PySem.W.Frag} {h : Heap} {mg : Str → Option Value} {fa : Addr} (X : K.In h) (G : h.Ns mainGlobals mg) (hfa : mg ("law" : Str) = some (.ref fa)) (c : HH.SaysX faL fnL exL tsL w K) :
    ∃ (fd : FuncData) (T : Tp K w mg), Fun K "law" "law" s_law fa fd ∧ ∀ (s : Shared) (v : Value), BindsTo s fd ⟨[v], []⟩ [("_law_script", v)] := by
  obtain ⟨fd_isname, F_isname⟩ := c.def_ 0 (d := dd_isname) rfl
  obtain ⟨fd_isnum, F_isnum⟩ := c.def_ 1 (d := dd_isnum) rfl
  obtain ⟨fd_iscalc, F_iscalc⟩ := c.def_ 2 (d := dd_iscalc) rfl
  obtain ⟨fd_bodies, F_bodies⟩ := c.def_ 3 (d := dd_bodies) rfl
  obtain ⟨fd_ispart, F_ispart⟩ := c.def_ 4 (d := dd_ispart) rfl
  obtain ⟨fd_isrow, F_isrow⟩ := c.def_ 5 (d := dd_isrow) rfl
  obtain ⟨fd_around, F_around⟩ := c.def_ 6 (d := dd_around) rfl
  obtain ⟨fd_wrong, F_wrong⟩ := c.def_ 7 (d := dd_wrong) rfl
  obtain ⟨fd_first, F_first⟩ := c.def_ 8 (d := dd_first) rfl
  obtain ⟨fd_places, F_places⟩ := c.def_ 9 (d := dd_places) rfl
  obtain ⟨fd_sizes, F_sizes⟩ := c.def_ 10 (d := dd_sizes) rfl
  obtain ⟨fd_locks, F_locks⟩ := c.def_ 11 (d := dd_locks) rfl
  obtain ⟨fd_np, F_np⟩ := c.def_ 12 (d := dd_np) rfl
  obtain ⟨fd_prog, F_prog⟩ := c.def_ 13 (d := dd_prog) rfl
  obtain ⟨fd_npl, F_npl⟩ := c.def_ 14 (d := dd_npl) rfl
  obtain ⟨fd_rowat, F_rowat⟩ := c.def_ 15 (d := dd_rowat) rfl
  obtain ⟨fd_pplaces, F_pplaces⟩ := c.def_ 16 (d := dd_pplaces) rfl
  obtain ⟨fd_prow, F_prow⟩ := c.def_ 17 (d := dd_prow) rfl
  obtain ⟨fd_peq, F_peq⟩ := c.def_ 18 (d := dd_peq) rfl
  obtain ⟨fd_plen, F_plen⟩ := c.def_ 19 (d := dd_plen) rfl
  obtain ⟨fd_pbody, F_pbody⟩ := c.def_ 20 (d := dd_pbody) rfl
  obtain ⟨fd_pcells, F_pcells⟩ := c.def_ 21 (d := dd_pcells) rfl
  obtain ⟨fd_plocks, F_plocks⟩ := c.def_ 22 (d := dd_plocks) rfl
  obtain ⟨fd_pchans, F_pchans⟩ := c.def_ 23 (d := dd_pchans) rfl
  obtain ⟨fd_begun, F_begun⟩ := c.def_ 24 (d := dd_begun) rfl
  obtain ⟨fd_draw, F_draw⟩ := c.def_ 25 (d := dd_draw) rfl
  obtain ⟨fd_pick, F_pick⟩ := c.def_ 26 (d := dd_pick) rfl
  obtain ⟨fd_names, F_names⟩ := c.def_ 27 (d := dd_names) rfl
  obtain ⟨fd_worth, F_worth⟩ := c.def_ 28 (d := dd_worth) rfl
  obtain ⟨fd_linit, F_linit⟩ := c.def_ 29 (d := dd_linit) rfl
  obtain ⟨fd_dop, F_dop⟩ := c.def_ 30 (d := dd_dop) rfl
  obtain ⟨fd_dor, F_dor⟩ := c.def_ 31 (d := dd_dor) rfl
  obtain ⟨fd_dob, F_dob⟩ := c.def_ 32 (d := dd_dob) rfl
  obtain ⟨fd_lone, F_lone⟩ := c.def_ 33 (d := dd_lone) rfl
  obtain ⟨fd_lworth, F_lworth⟩ := c.def_ 34 (d := dd_lworth) rfl
  obtain ⟨fd_alop, F_alop⟩ := c.def_ 35 (d := dd_alop) rfl
  obtain ⟨fd_alo, F_alo⟩ := c.def_ 36 (d := dd_alo) rfl
  obtain ⟨fd_ldue, F_ldue⟩ := c.def_ 37 (d := dd_ldue) rfl
  obtain ⟨fd_lsame, F_lsame⟩ := c.def_ 38 (d := dd_lsame) rfl
  obtain ⟨fd_wrapped, F_wrapped⟩ := c.def_ 39 (d := dd_wrapped) rfl
  obtain ⟨fd_family, F_family⟩ := c.def_ 40 (d := dd_family) rfl
  obtain ⟨fd_law, F_law⟩ := c.def_ 41 (d := dd_law) rfl
  have e := hfa.symm.trans (He.glo_ok X G (c.fact 41 (f := .glo "law") rfl))
  cases e
  have bl := FunD.bindsA (ps := ["_law_script"]) F_law fun _ _ _ _ _ _ us hl => match us, hl with | [_], _ => rfl
  exact ⟨fd_law, { C_YardError := He.ga K "YardError", gC_YardError := He.glo_ok X G (c.fact 63 (f := .glo "YardError") rfl), bs_YardError := HQ.bsB_ok (c.ex_ 4 rfl), C_NoProgram := He.ga K "NoProgram", gC_NoProgram := He.glo_ok X G (c.fact 42 (f := .glo "NoProgram") rfl), x_NoProgram := (HQ.exB_ok (c.ex_ 0 rfl)).1, xf_NoProgram := (HQ.exB_ok (c.ex_ 0 rfl)).2, ee_NoProgram := He.exm_ok (c.fact 43 (f := .exm "NoProgram" "NoProgram" true) rfl), na_NoProgram_place := He.noat_ok (c.fact 44 (f := .noat "NoProgram" "place") rfl), C_Program := He.ga K "Program", gC_Program := He.glo_ok X G (c.fact 45 (f := .glo "Program") rfl), cl_Program := He.cls_ok (c.fact 46 (f := .cls "Program") rfl), na_Program_spots := He.noat_ok (c.fact 48 (f := .noat "Program" "spots") rfl), na_Program_tree := He.noat_ok (c.fact 49 (f := .noat "Program" "tree") rfl), na_Program_first := He.noat_ok (c.fact 50 (f := .noat "Program" "first") rfl), na_Program_bolts := He.noat_ok (c.fact 51 (f := .noat "Program" "bolts") rfl), na_Program_widths := He.noat_ok (c.fact 52 (f := .noat "Program" "widths") rfl), C_NoPlace := He.ga K "NoPlace", gC_NoPlace := He.glo_ok X G (c.fact 53 (f := .glo "NoPlace") rfl), x_NoPlace := (HQ.exB_ok (c.ex_ 2 rfl)).1, xf_NoPlace := (HQ.exB_ok (c.ex_ 2 rfl)).2, ee_NoPlace := He.exm_ok (c.fact 54 (f := .exm "NoPlace" "NoPlace" true) rfl), na_NoPlace_at := He.noat_ok (c.fact 55 (f := .noat "NoPlace" "at") rfl), C_Lone := He.ga K "Lone", gC_Lone := He.glo_ok X G (c.fact 56 (f := .glo "Lone") rfl), cl_Lone := He.cls_ok (c.fact 57 (f := .cls "Lone") rfl), na_Lone_store := He.noat_ok (c.fact 59 (f := .noat "Lone" "store") rfl), na_Lone_said := He.noat_ok (c.fact 60 (f := .noat "Lone" "said") rfl), na_Lone_hour := He.noat_ok (c.fact 61 (f := .noat "Lone" "hour") rfl), na_Lone_basket := He.noat_ok (c.fact 62 (f := .noat "Lone" "basket") rfl), f_isname := _, fd_isname := fd_isname, D_isname := ⟨HH.funOf F_isname, (FunD.bindsN (ps := ["thing"]) F_isname fun _ _ _ _ _ _ us hl => match us, hl with | [_], _ => rfl), He.glo_ok X G (c.fact 0 (f := .glo "is_name") rfl)⟩, f_isnum := _, fd_isnum := fd_isnum, D_isnum := ⟨HH.funOf F_isnum, (FunD.bindsN (ps := ["thing"]) F_isnum fun _ _ _ _ _ _ us hl => match us, hl with | [_], _ => rfl), He.glo_ok X G (c.fact 1 (f := .glo "is_number") rfl)⟩, f_iscalc := _, fd_iscalc := fd_iscalc, D_iscalc := ⟨HH.funOf F_iscalc, (FunD.bindsN (ps := ["thing"]) F_iscalc fun _ _ _ _ _ _ us hl => match us, hl with | [_], _ => rfl), He.glo_ok X G (c.fact 2 (f := .glo "is_calc") rfl)⟩, f_bodies := _, fd_bodies := fd_bodies, D_bodies := ⟨HH.funOf F_bodies, (FunD.bindsN (ps := ["row"]) F_bodies fun _ _ _ _ _ _ us hl => match us, hl with | [_], _ => rfl), He.glo_ok X G (c.fact 3 (f := .glo "bodies_of") rfl)⟩, f_ispart := _, fd_ispart := fd_ispart, D_ispart := ⟨HH.funOf F_ispart, (FunD.bindsN (ps := ["kind", "thing", "known", "around"]) F_ispart fun _ _ _ _ _ _ us hl => match us, hl with | [_, _, _, _], _ => rfl), He.glo_ok X G (c.fact 4 (f := .glo "is_part") rfl)⟩, f_isrow := _, fd_isrow := fd_isrow, D_isrow := ⟨HH.funOf F_isrow, (FunD.bindsN (ps := ["row", "known", "around"]) F_isrow fun _ _ _ _ _ _ us hl => match us, hl with | [_, _, _], _ => rfl), He.glo_ok X G (c.fact 5 (f := .glo "is_row") rfl)⟩, f_around := _, fd_around := fd_around, D_around := ⟨HH.funOf F_around, (FunD.bindsN (ps := ["row", "around"]) F_around fun _ _ _ _ _ _ us hl => match us, hl with | [_, _], _ => rfl), He.glo_ok X G (c.fact 6 (f := .glo "around_in") rfl)⟩, f_wrong := _, fd_wrong := fd_wrong, D_wrong := ⟨HH.funOf F_wrong, (FunD.bindsN (ps := ["body", "place", "known", "around", "oftens"]) F_wrong fun _ _ _ _ _ _ us hl => match us, hl with | [_, _, _, _, _], _ => rfl), He.glo_ok X G (c.fact 7 (f := .glo "wrong_in") rfl)⟩, f_first := _, fd_first := fd_first, dv_first_cells := HH.kwAt ("first_wrong", none) "cells" K, dt_first_cells := fun H => HH.tpB_ok (c.ex_ 8 rfl) H, dv_first_locks := HH.kwAt ("first_wrong", none) "locks" K, dt_first_locks := fun H => HH.tpB_ok (c.ex_ 9 rfl) H, dv_first_channels := HH.kwAt ("first_wrong", none) "channels" K, dt_first_channels := fun H => HH.tpB_ok (c.ex_ 10 rfl) H, D_first := F_first, g_first := He.glo_ok X G (c.fact 8 (f := .glo "first_wrong") rfl), f_places := _, fd_places := fd_places, D_places := ⟨HH.funOf F_places, (FunD.bindsN (ps := ["body", "place"]) F_places fun _ _ _ _ _ _ us hl => match us, hl with | [_, _], _ => rfl), He.glo_ok X G (c.fact 9 (f := .glo "places_in") rfl)⟩, f_sizes := _, fd_sizes := fd_sizes, D_sizes := ⟨HH.funOf F_sizes, (FunD.bindsN (ps := ["thing", "least", "most"]) F_sizes fun _ _ _ _ _ _ us hl => match us, hl with | [_, _, _], _ => rfl), He.glo_ok X G (c.fact 10 (f := .glo "are_sizes") rfl)⟩, f_locks := _, fd_locks := fd_locks, D_locks := ⟨HH.funOf F_locks, (FunD.bindsN (ps := ["thing"]) F_locks fun _ _ _ _ _ _ us hl => match us, hl with | [_], _ => rfl), He.glo_ok X G (c.fact 11 (f := .glo "are_locks") rfl)⟩, f_np := _, fd_np := fd_np, D_np := HH.funOf F_np, b_np := (FunD.bindsN (ps := ["self", "place"]) F_np fun _ _ _ _ _ _ us hl => match us, hl with | [_, _], _ => rfl), m_np := He.meth_ok (c.fact 12 (f := .meth "NoProgram" "__init__") rfl), i_NoProgram := (HQ.inB_ok (c.ex_ 1 rfl)).1, ti_NoProgram := (HQ.inB_ok (c.ex_ 1 rfl)).2, f_prog := _, fd_prog := fd_prog, D_prog := F_prog, m_prog := He.meth_ok (c.fact 13 (f := .meth "Program" "__init__") rfl), mk_Program := He.mkr_ok (c.fact 47 (f := .mkr "Program") rfl), f_npl := _, fd_npl := fd_npl, D_npl := HH.funOf F_npl, b_npl := (FunD.bindsN (ps := ["self", "at"]) F_npl fun _ _ _ _ _ _ us hl => match us, hl with | [_, _], _ => rfl), m_npl := He.meth_ok (c.fact 14 (f := .meth "NoPlace" "__init__") rfl), i_NoPlace := (HQ.inB_ok (c.ex_ 3 rfl)).1, ti_NoPlace := (HQ.inB_ok (c.ex_ 3 rfl)).2, f_rowat := _, fd_rowat := fd_rowat, D_rowat := ⟨HH.funOf F_rowat, (FunD.bindsN (ps := ["body", "place"]) F_rowat fun _ _ _ _ _ _ us hl => match us, hl with | [_, _], _ => rfl), He.glo_ok X G (c.fact 15 (f := .glo "row_at") rfl)⟩, f_pplaces := _, fd_pplaces := fd_pplaces, D_pplaces := HH.funOf F_pplaces, b_pplaces := (FunD.bindsN (ps := ["self"]) F_pplaces fun _ _ _ _ _ _ us hl => match us, hl with | [_], _ => rfl), m_pplaces := He.meth_ok (c.fact 16 (f := .meth "Program" "places") rfl), f_prow := _, fd_prow := fd_prow, D_prow := HH.funOf F_prow, b_prow := (FunD.bindsN (ps := ["self", "place"]) F_prow fun _ _ _ _ _ _ us hl => match us, hl with | [_, _], _ => rfl), m_prow := He.meth_ok (c.fact 17 (f := .meth "Program" "row") rfl), f_peq := _, fd_peq := fd_peq, D_peq := HH.funOf F_peq, b_peq := (FunD.bindsN (ps := ["self", "other"]) F_peq fun _ _ _ _ _ _ us hl => match us, hl with | [_, _], _ => rfl), m_peq := He.meth_ok (c.fact 18 (f := .meth "Program" "__eq__") rfl), f_plen := _, fd_plen := fd_plen, D_plen := HH.funOf F_plen, b_plen := (FunD.bindsN (ps := ["self"]) F_plen fun _ _ _ _ _ _ us hl => match us, hl with | [_], _ => rfl), m_plen := He.meth_ok (c.fact 19 (f := .meth "Program" "__len__") rfl), f_pbody := _, fd_pbody := fd_pbody, D_pbody := HH.funOf F_pbody, b_pbody := (FunD.bindsN (ps := ["self"]) F_pbody fun _ _ _ _ _ _ us hl => match us, hl with | [_], _ => rfl), m_pbody := He.meth_ok (c.fact 20 (f := .meth "Program" "body") rfl), f_pcells := _, fd_pcells := fd_pcells, D_pcells := HH.funOf F_pcells, b_pcells := (FunD.bindsN (ps := ["self"]) F_pcells fun _ _ _ _ _ _ us hl => match us, hl with | [_], _ => rfl), m_pcells := He.meth_ok (c.fact 21 (f := .meth "Program" "cells") rfl), f_plocks := _, fd_plocks := fd_plocks, D_plocks := HH.funOf F_plocks, b_plocks := (FunD.bindsN (ps := ["self"]) F_plocks fun _ _ _ _ _ _ us hl => match us, hl with | [_], _ => rfl), m_plocks := He.meth_ok (c.fact 22 (f := .meth "Program" "locks") rfl), f_pchans := _, fd_pchans := fd_pchans, D_pchans := HH.funOf F_pchans, b_pchans := (FunD.bindsN (ps := ["self"]) F_pchans fun _ _ _ _ _ _ us hl => match us, hl with | [_], _ => rfl), m_pchans := He.meth_ok (c.fact 23 (f := .meth "Program" "channels") rfl), f_begun := _, fd_begun := fd_begun, D_begun := ⟨HH.funOf F_begun, (FunD.bindsN (ps := ["_law_script"]) F_begun fun _ _ _ _ _ _ us hl => match us, hl with | [_], _ => rfl), He.glo_ok X G (c.fact 24 (f := .glo "_law_begun") rfl)⟩, f_draw := _, fd_draw := fd_draw, D_draw := ⟨HH.funOf F_draw, (FunD.bindsN (ps := ["_law_s", "_law_size"]) F_draw fun _ _ _ _ _ _ us hl => match us, hl with | [_, _], _ => rfl), He.glo_ok X G (c.fact 25 (f := .glo "_law_draw") rfl)⟩, f_pick := _, fd_pick := fd_pick, D_pick := ⟨HH.funOf F_pick, (FunD.bindsN (ps := ["_law_s", "_law_some"]) F_pick fun _ _ _ _ _ _ us hl => match us, hl with | [_, _], _ => rfl), He.glo_ok X G (c.fact 26 (f := .glo "_law_pick") rfl)⟩, f_names := _, fd_names := fd_names, D_names := ⟨HH.funOf F_names, (FunD.bindsN (ps := ["_law_s", "_law_many"]) F_names fun _ _ _ _ _ _ us hl => match us, hl with | [_, _], _ => rfl), He.glo_ok X G (c.fact 27 (f := .glo "_law_names") rfl)⟩, f_worth := _, fd_worth := fd_worth, D_worth := ⟨HH.funOf F_worth, (FunD.bindsN (ps := ["calc", "words"]) F_worth fun _ _ _ _ _ _ us hl => match us, hl with | [_, _], _ => rfl), He.glo_ok X G (c.fact 28 (f := .glo "worth") rfl)⟩, f_linit := _, fd_linit := fd_linit, D_linit := HH.funOf F_linit, b_linit := (FunD.bindsN (ps := ["self", "cells"]) F_linit fun _ _ _ _ _ _ us hl => match us, hl with | [_, _], _ => rfl), m_linit := He.meth_ok (c.fact 29 (f := .meth "Lone" "__init__") rfl), mk_Lone := He.mkr_ok (c.fact 58 (f := .mkr "Lone") rfl), f_dop := _, fd_dop := fd_dop, D_dop := HH.funOf F_dop, b_dop := (FunD.bindsN (ps := ["self", "word", "row"]) F_dop fun _ _ _ _ _ _ us hl => match us, hl with | [_, _, _], _ => rfl), m_dop := He.meth_ok (c.fact 30 (f := .meth "Lone" "do_plain") rfl), f_dor := _, fd_dor := fd_dor, D_dor := HH.funOf F_dor, b_dor := (FunD.bindsN (ps := ["self", "row"]) F_dor fun _ _ _ _ _ _ us hl => match us, hl with | [_, _], _ => rfl), m_dor := He.meth_ok (c.fact 31 (f := .meth "Lone" "do_row") rfl), f_dob := _, fd_dob := fd_dob, D_dob := HH.funOf F_dob, b_dob := (FunD.bindsN (ps := ["self", "body"]) F_dob fun _ _ _ _ _ _ us hl => match us, hl with | [_, _], _ => rfl), m_dob := He.meth_ok (c.fact 32 (f := .meth "Lone" "do_body") rfl), f_lone := _, fd_lone := fd_lone, D_lone := ⟨HH.funOf F_lone, (FunD.bindsN (ps := ["program"]) F_lone fun _ _ _ _ _ _ us hl => match us, hl with | [_], _ => rfl), He.glo_ok X G (c.fact 33 (f := .glo "lone") rfl)⟩, f_lworth := _, fd_lworth := fd_lworth, D_lworth := ⟨HH.funOf F_lworth, (FunD.bindsN (ps := ["_law_calc", "_law_words"]) F_lworth fun _ _ _ _ _ _ us hl => match us, hl with | [_, _], _ => rfl), He.glo_ok X G (c.fact 34 (f := .glo "_law_worth") rfl)⟩, f_alop := _, fd_alop := fd_alop, D_alop := ⟨HH.funOf F_alop, (FunD.bindsN (ps := ["_law_row", "_law_held"]) F_alop fun _ _ _ _ _ _ us hl => match us, hl with | [_, _], _ => rfl), He.glo_ok X G (c.fact 35 (f := .glo "_law_alone_plain") rfl)⟩, f_alo := _, fd_alo := fd_alo, D_alo := ⟨HH.funOf F_alo, (FunD.bindsN (ps := ["_law_rows", "_law_held"]) F_alo fun _ _ _ _ _ _ us hl => match us, hl with | [_, _], _ => rfl), He.glo_ok X G (c.fact 36 (f := .glo "_law_alone") rfl)⟩, f_ldue := _, fd_ldue := fd_ldue, D_ldue := ⟨HH.funOf F_ldue, (FunD.bindsN (ps := ["_law_program"]) F_ldue fun _ _ _ _ _ _ us hl => match us, hl with | [_], _ => rfl), He.glo_ok X G (c.fact 37 (f := .glo "_law_due_alone") rfl)⟩, f_lsame := _, fd_lsame := fd_lsame, D_lsame := ⟨HH.funOf F_lsame, (FunD.bindsN (ps := ["_law_found", "_law_due"]) F_lsame fun _ _ _ _ _ _ us hl => match us, hl with | [_, _], _ => rfl), He.glo_ok X G (c.fact 38 (f := .glo "_law_same_lone") rfl)⟩, f_wrapped := _, fd_wrapped := fd_wrapped, D_wrapped := ⟨HH.funOf F_wrapped, (FunD.bindsN (ps := ["_law_s", "_law_rows", "_law_names_here", "_law_deep"]) F_wrapped fun _ _ _ _ _ _ us hl => match us, hl with | [_, _, _, _], _ => rfl), He.glo_ok X G (c.fact 39 (f := .glo "_law_wrapped") rfl)⟩, f_family := _, fd_family := fd_family, D_family := ⟨HH.funOf F_family, (FunD.bindsN (ps := ["_law_s", "_law_way", "_law_names_here"]) F_family fun _ _ _ _ _ _ us hl => match us, hl with | [_, _, _], _ => rfl), He.glo_ok X G (c.fact 40 (f := .glo "_law_family") rfl)⟩, c_LETTERS := He.str_ok X G (c.fact 64 (f := .str "LETTERS" "abcdefghijklmnopqrstuvwxyz") rfl), a_KINDS := He.ga K "KINDS", c_KINDS := He.glo_ok X G (c.fact 65 (f := .glo "KINDS") rfl), t_KINDS := fun H => He.tupB_ok (c.ex_ 5 rfl) H, a_PARTS := He.ga K "PARTS", c_PARTS := He.glo_ok X G (c.fact 66 (f := .glo "PARTS") rfl), d_PARTS := HH.DT.of (c.ex_ 6 rfl) (c.dic 0 rfl) rfl, a_RANGES := He.ga K "RANGES", c_RANGES := He.glo_ok X G (c.fact 67 (f := .glo "RANGES") rfl), d_RANGES := HH.DT.of (c.ex_ 7 rfl) (c.dic 1 rfl) rfl, c_MOST_DEEP := He.int_ok X G (c.fact 68 (f := .int "MOST_DEEP" 9) rfl), c_MOST_OFTEN := He.int_ok X G (c.fact 69 (f := .int "MOST_OFTEN" 2) rfl), c_MOST_ROWS := He.int_ok X G (c.fact 70 (f := .int "MOST_ROWS" 60) rfl), c_MOST_NAMES := He.int_ok X G (c.fact 71 (f := .int "MOST_NAMES" 4) rfl), all := He.free_ok X G (c.fact 72 (f := .free "all") rfl), bool := He.free_ok X G (c.fact 73 (f := .free "bool") rfl), dict := He.free_ok X G (c.fact 74 (f := .free "dict") rfl), enumerate := He.free_ok X G (c.fact 75 (f := .free "enumerate") rfl), int := He.free_ok X G (c.fact 76 (f := .free "int") rfl), isinstance := He.free_ok X G (c.fact 77 (f := .free "isinstance") rfl), len := He.free_ok X G (c.fact 78 (f := .free "len") rfl), list := He.free_ok X G (c.fact 79 (f := .free "list") rfl), max := He.free_ok X G (c.fact 80 (f := .free "max") rfl), range := He.free_ok X G (c.fact 81 (f := .free "range") rfl), repr := He.free_ok X G (c.fact 82 (f := .free "repr") rfl), set := He.free_ok X G (c.fact 83 (f := .free "set") rfl), sorted := He.free_ok X G (c.fact 84 (f := .free "sorted") rfl), str := He.free_ok X G (c.fact 85 (f := .free "str") rfl), tuple := He.free_ok X G (c.fact 86 (f := .free "tuple") rfl), zip := He.free_ok X G (c.fact 87 (f := .free "zip") rfl) }, HH.funOf F_law, fun s v => bl s [v] rfl⟩
end TP
open PySem PySem.W PySem.Calls PyProof.Rows
set_option maxRecDepth 100000 in
set_option maxHeartbeats 0 in
theorem PySem.Challenge.cw_nestyard_k09_lone_at_the_bounds_holds : PySem.Challenge.rw_nestyard_k09_lone_at_the_bounds.Holds := by
  w_on; o_law
  refine HandSHeadRun.head_any (r := OpenLaw.row PySem.Challenge.rw_nestyard_k09_lone_at_the_bounds) (q := TP.qv) (H := TP.hk) (ob := TP.ob) (M := 4000) (loose := TP.names) (d := HandSHeadRun.topDef (OpenLaw.row PySem.Challenge.rw_nestyard_k09_lone_at_the_bounds).prog 50) (kwd := []) TP.ob_eq
    (by kernel_rfl) (fun s => by kernel_rfl) TP.run (by kernel_rfl) (by kernel_rfl) (by kernel_rfl) (by rfl) (by first | assumption | decide +kernel) (by decide +kernel) ⟨rfl, rfl, rfl, rfl, rfl, by decide +kernel⟩ ?hw ?hc
  case hw => w_witness2
  case hc =>
    refine HH.walk_ofX (l := PySem.Challenge.rw_nestyard_k09_lone_at_the_bounds) (n := 63) (k := 160) (x := "_law_script") (CX := L2.CX0) rfl (by decide) (by kernel_rfl) ⟨rfl, by decide, by decide⟩ ?F (fun _ _ _ _ z => z)
    intro w mg fa h Y G hmg0
    obtain ⟨K, KX, c⟩ := Y
    have hmg : mg ("law" : PySem.Str) = some (.ref fa) := by
      have e : (HandSHeadRun.topDef (OpenLaw.row PySem.Challenge.rw_nestyard_k09_lone_at_the_bounds).prog 50).name = ("law" : PySem.Str) := by kernel_rfl
      rw [← e]
      exact hmg0
    obtain ⟨fd, T, F, hb⟩ := TP.facts KX G hmg c
    exact ⟨K, fd, TP.spLaw K, KX, hb, fun H a ns hl _ hS => ⟨a, ns, rfl, hS, hl, fun _ => rfl⟩, fun base _ _ => TP.ok_law F T⟩
